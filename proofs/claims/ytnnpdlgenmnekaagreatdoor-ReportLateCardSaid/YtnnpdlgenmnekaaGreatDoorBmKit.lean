/- the abstract machine -/
import Derived.Test.YtnnpdlgenmnekaaGreatDoorBmCode
import Derived.Orders
import Derived.Test.YtnnpdlgenmnekaaGreatDoorBmStep
import Derived.ProofKit
import Derived.Below
import Derived.OpenShut
import Derived.ChangeSame
import Derived.Deep.Slices
set_option linter.unusedVariables false
set_option linter.unusedSimpArgs false
namespace Go.Bm
open Go.RowKit
def Sj (s:St) (d:Option Tmp) (v:TV):St:=
 match d with
 |none=>s
 |some t=>⟨setL s.tmps t v,s.aB,s.aC⟩
section
variable {P:Program} {C:Cfg} {w:World} {R:Type} {Z:Base}
theorem L5 (s:St) (d:Option Tmp) (v:TV) (K:St->Option R):put s d v K=K (Sj s d v):=Fe s d v K
def Au (dst:Option Tmp) (p:Prim) (aB:List (Nat×Box)) (aC:List (Nat×Row)):Option (TV×List (Nat×Box)):=
 match p with
 | .val v=>some (v,aB)
 | .load g sz key off=>match Ab aB key with
  |some b=>match CN g sz b.cells off with
   |some v=>some (v,aB)
   |none=>none
  |none=>none
 | .store key off cs=>match Ab aB key with
  |some b=>if Nat.ble (off+cs.length) b.cells.length then some (.vD,upd aB key ⟨b.ty,splice b.cells off cs⟩)else none
  |none=>none
 | .new ty cs=>match dst with
  |some d=>match Ab aB d with
   |some _=>none
   |none=>some (.c (.ptr d 0),ins aB d ⟨ty,cs⟩)
  |none=>none
 | .newView _ ks l=>some (.c (.vC ks l),aB)
 | .rload g sz id idx sub=>match Ab aC id with
  |some r=>match CN g sz (r.f idx) sub with
   |some v=>some (v,aB)
   |none=>none
  |none=>none
 | .call f args=>match C.spec f with
  |some g=>match E6 aC args with
   |some l=>match g (TV×Mem) l ⟨[],[]⟩ (λv m=>some (v,m))with
    |some (v,⟨[],[]⟩)=>if((!(args.any TV.hasOwn)||v.flat)&&v.plainB)=true then some (v,aB)else none
    |_=>none
   |none=>none
  |none=>none
 | .callD f args=>match C.spec f with
  |some g=>
   if(Ak (TV.inK (AV (cat AC.keys (cat TV.cellsOf args)) []) []) args&&Ak (λk=>Ak AC.calm (Es aB k)) (AV (cat AC.keys (cat TV.cellsOf args)) [])&&BH (AV (cat AC.keys (cat TV.cellsOf args)) []))=true then
    match C5 aB (λk=>base+pos (AV (cat AC.keys (cat TV.cellsOf args)) []) k) (λi=>base+pos [] i) base (AV (cat AC.keys (cat TV.cellsOf args)) [])with
    |some G=>match g (TV×Mem) (args.map (TV.ren (λk=>base+pos (AV (cat AC.keys (cat TV.cellsOf args)) []) k) (λi=>base+pos [] i))) ⟨G,[]⟩ (λv m=>some (v,m))with
     |some (v,⟨D,[]⟩)=>
      if(Ak (λp:Nat×Box=>Ea D p.1) G&&Ak (λp:Nat×Box=>Ea G p.1) D&&BH (D.map (·.1))&&Ak (λp:Nat×Box=>Ak AC.calm p.2.cells) D&&v.plainB)=true then
       some (v,Cr (AV (cat AC.keys (cat TV.cellsOf args)) []) D aB)
      else none
     |_=>none
    |none=>none
   else none
  |none=>none
 |_=>none
theorem Zsz (D:Aj P C) {dst:Option Tmp} {p:Prim} (U:Prim.simple (some p)=true) (O:Prim.isApp (some p)=false) (M:Prim.isMk (some p)=false) (s:St) (K:TV->St->Option R):
  A2 C dst p s K=(Au (C:=C) dst p s.aB s.aC).bind λq=>K q.1 ⟨s.tmps,q.2,s.aC⟩:=by
 obtain⟨tm,aB,aC⟩:=s;cases p<;>simp only[Prim.simple]at U<;>try (simp at U;done)
 case appD=>simp[Prim.isApp]at O
 case callF=>simp[Prim.isMk]at M
 case newRow=>simp[Prim.isMk]at M
 case val v=>rfl
 case newView e ks l=>rfl
 case rload g sz id idx sub=>
  simp only[A2,Au];cases I:Ab aC id with
  |none=>rfl
  |some r=>
   dsimp only;cases S:CN g sz (r.f idx) sub<;>rfl
 case load g sz key off=>
  simp only[A2,Au];cases I:Ab aB key with
  |none=>rfl
  |some b=>
   dsimp only;cases S:CN g sz b.cells off<;>rfl
 case store key off cs=>
  simp only[A2,Au];cases I:Ab aB key with
  |none=>rfl
  |some b=>
   dsimp only;cases Nat.ble (off+cs.length) b.cells.length
   ·rfl
   ·simp only[ah,AY,dt,af]
 case new ty cs=>
  simp only[A2,Au];cases dst with
  |none=>rfl
  |some d=>
   dsimp only;cases I:Ab aB d with
   |some _=>rfl
   |none=>simp only[AY,af]
 case call f args=>
  simp only[A2,Au];cases I:C.spec f with
  |none=>rfl
  |some g=>
   dsimp only;cases S:E6 aC args with
   |none=>rfl
   |some l=>
    dsimp only;have L:=D.1 f g I;rw[L.nat];cases V:g (TV×Mem) l ⟨[],[]⟩ (λv m=>some (v,m))with
    |none=>rfl
    |some q=>
     obtain⟨v,⟨N,T⟩⟩:=q;simp only[af];cases N with
     |cons _ _=>rfl
     |nil=>
      cases T with
      |cons _ _=>rfl
      |nil=>
       dsimp only;cases((!(args.any TV.hasOwn)||v.flat)&&v.plainB)<;>rfl
 case callD f args=>
  simp only[A2,Au];cases I:C.spec f with
  |none=>rfl
  |some g=>
   dsimp only;simp only[AY];generalize AV (cat AC.keys (cat TV.cellsOf args)) []=keys;cases X:(Ak (TV.inK keys []) args&&Ak (λk=>Ak AC.calm (Es aB k)) keys&&BH keys)
   ·simp
   ·simp only[ah,dt];cases S:C5 aB (λk=>base+pos keys k) (λi=>base+pos [] i) base keys with
    |none=>rfl
    |some N=>
     dsimp only;have L:=D.1 f g I;rw[L.nat];cases V:g (TV×Mem) (args.map (TV.ren (λk=>base+pos keys k) (λi=>base+pos [] i))) ⟨N,[]⟩ (λv m=>some (v,m))with
     |none=>rfl
     |some q=>
      obtain⟨v,⟨G,T⟩⟩:=q;simp only[af];cases T with
      |cons _ _=>rfl
      |nil=>
       dsimp only;cases(Ak (λp:Nat×Box=>Ea G p.1) N&&Ak (λp:Nat×Box=>Ea N p.1) G&&BH (G.map (·.1))&&Ak (λp:Nat×Box=>Ak AC.calm p.2.cells) G&&v.plainB)<;>rfl
theorem Bx {α:Type} {c:Bool} {p:Option α} {q:α} (h:cond c p none=some q):c=true/\p=some q:=by cases c<;>simp at h;exact⟨rfl,h⟩
def Qd0 (aC:List (Nat×Row)) (e:TypeId) (ks:List Kd) (bytes id:Nat) (x:AC):Option (TV×List (Nat×Row)):=
 match G_ aC ks x with
 |some m=>match Ab aC id with
  |some r=>if(Cy ks r.ks&&Nat.beq r.ty e&&Nat.ble 1 bytes)=true then
    if Nat.ble ((r.l++m).length*bytes) 140737488355328=true then some (.c (.own id r.ks.length (r.l++m).length),upd aC id ⟨e,r.ks,r.l++m⟩)else none
   else none
  |none=>none
 |none=>none
def W_ (id:Nat) (tm:List TV) (bx:List (Nat×Box)) (aC:List (Nat×Row)):St:=⟨tm.map (TV.kill id),bx.map λp=>(p.1,p.2.kill id),aC⟩
def Qmh (aC:List (Nat×Row)) (e:TypeId) (ks:List Kd) (bytes d:Nat) (x:AC):Option (TV×List (Nat×Row)):=
 match G_ aC ks x with
 |some m=>match Ab aC d with
  |some _=>none
  |none=>if(Nat.ble 1 ks.length&&Nat.ble 1 bytes)=true then
    if Nat.ble (m.length*bytes) 140737488355328=true then some (.c (.own d ks.length m.length),ins aC d ⟨e,ks,m⟩)else none
   else none
 |none=>none
def KA (dst:Option Tmp):Prim->Option Nat
 | .appD _ _ _ (.own id _ _) _=>some id
 | .appD _ _ _ .nilSl _=>dst
 |_=>none
def KS (dst:Option Tmp) (aC:List (Nat×Row)):Prim->Option (TV×List (Nat×Row))
 | .appD e ks bytes (.own id _ _) x=>Qd0 aC e ks bytes id x
 | .appD e ks bytes .nilSl x=>match dst with
  |some d=>Qmh aC e ks bytes d x
  |none=>none
 |_=>none
def mkG (dst:Option Tmp) (p:Prim):Option (TV×Option (Nat×Row)):=
 match p with
 | .newRow e ks l=>match dst with
  |some d=>some (.c (.own (C.rowAs d) ks.length l.length),some (C.rowAs d,⟨e,ks,l⟩))
  |none=>none
 | .callF f args=>match C.spec f with
  |some g=>if Ak TV.plainB args=true then match g (TV×Mem) args ⟨[],[]⟩ (λv m=>some (v,m))with
    |some (v,⟨[],[]⟩)=>if v.plainB=true then some (v,none)else none
    |some (.v false [.own j _ _],⟨[],[(k,r)]⟩)=>if Nat.beq j k=true then some (.c (.own (Hz (dst.getD 0)) r.ks.length r.l.length),some (Hz (dst.getD 0),r))else none
    |_=>none
   else none
  |none=>none
 |_=>none
def mkD (dst:Option Tmp) (p:Prim) (aC:List (Nat×Row)):Option (TV×List (Nat×Row)):=
 match mkG (C:=C) dst p with
 |some (v,none)=>some (v,aC)
 |some (v,some (k,r))=>match Ab aC k with
  |some _=>none
  |none=>some (v,ins aC k r)
 |none=>none
def EN (dst:Option Tmp) (p:Prim) (s:St):Option (TV×St):=
 bif Prim.isApp (some p)then match KA dst p with
  |some id=>(KS dst s.aC p).map λq=>(q.1,W_ id s.tmps s.aB q.2)
  |none=>none
 else bif Prim.isMk (some p)then(mkD (C:=C) dst p s.aC).map λq=>(q.1,⟨s.tmps,s.aB,q.2⟩)
 else(Au (C:=C) dst p s.aB s.aC).map λq=>(q.1,⟨s.tmps,q.2,s.aC⟩)
theorem Q65 (D:Aj P C) {dst:Option Tmp} {p:Prim} (S:Prim.simple (some p)=true) (s:St) (K:TV->St->Option R):
  A2 C dst p s K=(EN (C:=C) dst p s).bind λq=>K q.1 q.2:=by
 cases I:Prim.isApp (some p)with
 |false=>
  cases L:Prim.isMk (some p)with
  |false=>
   rw[Zsz D S (by rw[I]) L];unfold EN;rw[I,L];simp only[aq];cases Au (C:=C) dst p s.aB s.aC<;>rfl
  |true=>
   obtain⟨tm,aB,aC⟩:=s;unfold EN;rw[I,L];simp only[aq,ah];cases p<;>simp[Prim.isMk]at L
   case newRow e ks l=>
    simp only[A2,mkD,mkG];cases dst with
    |none=>rfl
    |some d=>
     dsimp only;cases Ab aC (C.rowAs d)with
     |some _=>rfl
     |none=>simp only[AY];rfl
   case callF f args=>
    simp only[A2,mkD,mkG];cases T:C.spec f with
    |none=>rfl
    |some g=>
     dsimp only;cases Y:Ak TV.plainB args
     ·rfl
     simp only[ah,dt];have M:=D.1 f g T;rw[M.nat];cases h3:g (TV×Mem) args ⟨[],[]⟩ (λv m=>some (v,m))with
     |none=>rfl
     |some q=>
      obtain⟨v,⟨U,V⟩⟩:=q;simp only[af];cases U with
      |cons _ _=>cases v<;>rfl
      |nil=>
       cases V with
       |nil=>
        dsimp only;cases v.plainB<;>rfl
       |cons p l=>
        obtain⟨k,r⟩:=p;cases l with
        |cons _ _=>rfl
        |nil=>
         dsimp only;split
         ·rename_i j w0 n0;cases G:Nat.beq j k
          ·simp only[G,dm,f8];rfl
          ·simp only[ah,G,dt];cases O:Ab aC (Hz (dst.getD 0))with
           |some _=>simp only[O];rfl
           |none=>simp only[AY,O];rfl
         ·rename_i N;cases v with
          |vD=>rfl
          |tup ps=>rfl
          |v g cs=>
           cases g with
           |true=>rfl
           |false=>
            cases cs with
            |nil=>rfl
            |cons a l=>
             cases l with
             |cons _ _=>cases a<;>rfl
             |nil=>cases a<;>first|rfl|exact absurd rfl (N _ _ _)
 |true=>
  obtain⟨tm,aB,aC⟩:=s;cases p<;>simp[Prim.isApp]at I
  rename_i e ks bytes X x;unfold EN;simp only[Prim.isApp,ah,A2];cases X
  case own id w' n=>
   dsimp only[KA,KS,Qd0];cases G_ aC ks x with
   |none=>rfl
   |some m=>
    dsimp only;cases Ab aC id with
    |none=>rfl
    |some r=>
     dsimp only;cases(Cy ks r.ks&&Nat.beq r.ty e&&Nat.ble 1 bytes)
     ·rfl
     ·simp only[ah,dt];cases Nat.ble ((r.l++m).length*bytes) 140737488355328
      ·rfl
      ·simp only[ah,dt,AY];rfl
  case nilSl=>
   dsimp only[KA,KS];cases dst with
   |none=>cases G_ aC ks x<;>rfl
   |some d=>
    dsimp only[Qmh];cases G_ aC ks x with
    |none=>rfl
    |some m=>
     dsimp only;cases Ab aC d with
     |some _=>rfl
     |none=>
      dsimp only;cases(Nat.ble 1 ks.length&&Nat.ble 1 bytes)
      ·rfl
      ·simp only[ah,dt];cases Nat.ble (m.length*bytes) 140737488355328
       ·rfl
       ·simp only[ah,dt,AY];rfl
  all_goals
   dsimp only[KA];cases G_ aC ks x<;>rfl
theorem Zmk (D:Aj P C) {dst:Option Tmp} {p:Prim} {s:St} {K:TV->St->Option R} {r:R} (h:A2 C dst p s K=some r):∃v L,K v L=some r:=by
 obtain⟨tm,aB,aC⟩:=s;cases p<;>simp only[A2]at h
 case val v=>exact⟨_,_,h⟩
 case newView e ks l=>exact⟨_,_,h⟩
 case load g sz key off=>
  repeat' split at h
  all_goals first|(simp at h;done)|exact⟨_,_,h⟩
 case store key off cs=>
  split at h
  ·rename_i b _;cases hb:Nat.ble (off+cs.length) b.cells.length<;>rw[hb]at h
   ·simp at h
   ·simp only[ah,AY]at h;exact⟨_,_,h⟩
  ·simp at h
 case new ty cs=>
  split at h
  ·split at h
   ·simp at h
   ·simp only[AY]at h;exact⟨_,_,h⟩
  ·simp at h
 case newS ty n cs=>
  split at h
  ·split at h
   ·simp at h
   ·simp only[AY]at h;exact⟨_,_,h⟩
  ·simp at h
 case rload g sz id idx sub=>
  repeat' split at h
  all_goals first|(simp at h;done)|exact⟨_,_,h⟩
 case rstore id idx sub cs=>
  split at h
  ·rename_i M _;cases hb:(Nat.ble (sub+cs.length) M.w&&Ak AC.plain cs)<;>rw[hb]at h
   ·simp at h
   ·simp only[ah]at h;split at h
    ·simp only[AY]at h;exact⟨_,_,h⟩
    ·simp at h
  ·simp at h
 case newRow e ks l=>
  split at h
  ·split at h
   ·simp at h
   ·simp only[AY]at h;exact⟨_,_,h⟩
  ·simp at h
 case make e ks bytes n z=>
  split at h
  ·split at h
   ·simp at h
   ·obtain⟨_,h⟩:=Bx h;simp only[AY]at h;exact⟨_,_,h⟩
  ·simp at h
 case cutR id a=>
  split at h
  ·obtain⟨_,h⟩:=Bx h;simp only[AY]at h;exact⟨_,_,h⟩
  ·simp at h
 case append e ks bytes s x=>
  split at h
  ·split at h
   ·split at h
    ·split at h
     ·simp at h
     ·obtain⟨_,h⟩:=Bx h;obtain⟨_,h⟩:=Bx h;simp only[AY]at h;exact⟨_,_,h⟩
    ·simp at h
   ·split at h
    ·obtain⟨_,h⟩:=Bx h;obtain⟨_,h⟩:=Bx h;simp only[AY]at h;exact⟨_,_,h⟩
    ·simp at h
   ·simp at h
  ·simp at h
 case call f args=>
  split at h
  ·rename_i g G;split at h
   ·obtain⟨v,m,h',_⟩:=(D.1 f g G).run h;split at h'
    ·obtain⟨_,h'⟩:=Bx h';exact⟨_,_,h'⟩
    ·simp at h'
   ·simp at h
  ·simp at h
 case callM f args=>
  split at h
  ·rename_i g G;cases I:C.keepR f<;>rw[I]at h
   case true=>
    simp only[ah]at h;unfold R3 at h;split at h
    ·split at h
     ·obtain⟨v,m,h',_⟩:=(D.1 f g G).run h;split at h'
      ·obtain⟨_,h'⟩:=Bx h';simp only[AY]at h';exact⟨_,_,h'⟩
      ·simp at h'
     ·simp at h
    ·simp at h
   simp only[aq]at h;simp only[AY]at h;obtain⟨_,h⟩:=Bx h;split at h
   ·obtain⟨v,m,h',_⟩:=(D.1 f g G).run h;obtain⟨_,h'⟩:=Bx h';exact⟨_,_,h'⟩
   ·simp at h
  ·simp at h
 case callF f args=>
  split at h
  ·rename_i g G;obtain⟨_,h⟩:=Bx h;obtain⟨v,m,h',_⟩:=(D.1 f g G).run h;split at h'
   ·obtain⟨_,h'⟩:=Bx h';exact⟨_,_,h'⟩
   ·split at h'
    ·obtain⟨_,h'⟩:=Bx h';split at h'
     ·simp at h'
     ·simp only[AY]at h';exact⟨_,_,h'⟩
    ·simp at h'
   ·simp at h'
  ·simp at h
 case appD e ks bytes s x=>
  split at h
  ·split at h
   ·split at h
    ·obtain⟨_,h⟩:=Bx h;obtain⟨_,h⟩:=Bx h;simp only[AY]at h;exact⟨_,_,h⟩
    ·simp at h
   ·split at h
    ·split at h
     ·simp at h
     ·obtain⟨_,h⟩:=Bx h;obtain⟨_,h⟩:=Bx h;simp only[AY]at h;exact⟨_,_,h⟩
    ·simp at h
   ·simp at h
  ·simp at h
 case callD f args=>
  split at h
  ·rename_i g G;simp only[AY]at h;obtain⟨_,h⟩:=Bx h;split at h
   ·obtain⟨v,m,h',_⟩:=(D.1 f g G).run h;split at h'
    ·obtain⟨_,h'⟩:=Bx h';exact⟨_,_,h'⟩
    ·simp at h'
   ·simp at h
  ·simp at h
theorem Zeg (I:Aj P C) (dst:Option Tmp) (p:Prim) (s:St) (K:TV->St->Option R):A2 C dst p s K=(A2 C dst p s λv S=>some (v,S)).bind λq=>K q.1 q.2:=by
 obtain⟨tm,aB,aC⟩:=s;cases p<;>simp only[A2,AY]
 case val v=>rfl
 case newView e ks l=>rfl
 case load g sz key off=>
  cases Ab aB key with
  |none=>rfl
  |some b=>
   dsimp only;cases CN g sz b.cells off<;>rfl
 case store key off cs=>
  cases Ab aB key with
  |none=>rfl
  |some b=>
   dsimp only;cases Nat.ble (off+cs.length) b.cells.length<;>rfl
 case new ty cs=>
  cases dst with
  |none=>rfl
  |some d=>
   dsimp only;cases Ab aB d<;>rfl
 case newS ty n cs=>
  cases dst with
  |none=>rfl
  |some d=>
   dsimp only;cases Ab aB d<;>rfl
 case rload g sz id idx sub=>
  cases Ab aC id with
  |none=>rfl
  |some r=>
   dsimp only;cases CN g sz (r.f idx) sub<;>rfl
 case rstore id idx sub cs=>
  cases Ab aC id with
  |none=>rfl
  |some r=>
   dsimp only;cases(Nat.ble (sub+cs.length) r.w&&Ak AC.plain cs)
   ·rfl
   ·simp only[ah];cases Ft r.ks (splice (r.f idx) sub cs)<;>rfl
 case newRow e ks l=>
  cases dst with
  |none=>rfl
  |some d=>
   dsimp only;cases Ab aC (C.rowAs d)<;>rfl
 case make e ks bytes n z=>
  cases dst with
  |none=>rfl
  |some d=>
   dsimp only;cases Ab aC d with
   |some _=>rfl
   |none=>
    dsimp only;cases(decide (0<=n)&&decide (n*(bytes:Int)<=140737488355328))<;>rfl
 case cutR id a=>
  cases Ab aC id with
  |none=>rfl
  |some r=>
   dsimp only;cases Nat.ble a r.l.length<;>rfl
 case append e ks bytes s x=>
  cases G_ aC ks x with
  |none=>rfl
  |some m=>
   dsimp only;cases s
   case nilSl=>
    dsimp only;cases dst with
    |none=>rfl
    |some d=>
     dsimp only;cases Ab aC d with
     |some _=>rfl
     |none=>
      dsimp only;cases(Nat.ble 1 ks.length&&Nat.ble 1 bytes)
      ·rfl
      ·simp only[ah];cases Nat.ble (m.length*bytes) 140737488355328<;>rfl
   case own id w' n=>
    dsimp only;cases Ab aC id with
    |none=>rfl
    |some r=>
     dsimp only;cases(Cy ks r.ks&&Nat.beq r.ty e&&Nat.ble 1 bytes)
     ·rfl
     ·simp only[ah];cases Nat.ble ((r.l++m).length*bytes) 140737488355328<;>rfl
   all_goals rfl
 case appD e ks bytes s x=>
  cases G_ aC ks x with
  |none=>rfl
  |some m=>
   dsimp only;cases s
   case nilSl=>
    dsimp only;cases dst with
    |none=>rfl
    |some d=>
     dsimp only;cases Ab aC d with
     |some _=>rfl
     |none=>
      dsimp only;cases(Nat.ble 1 ks.length&&Nat.ble 1 bytes)
      ·rfl
      ·simp only[ah];cases Nat.ble (m.length*bytes) 140737488355328<;>rfl
   case own id w' n=>
    dsimp only;cases Ab aC id with
    |none=>rfl
    |some r=>
     dsimp only;cases(Cy ks r.ks&&Nat.beq r.ty e&&Nat.ble 1 bytes)
     ·rfl
     ·simp only[ah];cases Nat.ble ((r.l++m).length*bytes) 140737488355328<;>rfl
   all_goals rfl
 case call f args=>
  cases N:C.spec f with
  |none=>rfl
  |some g=>
   dsimp only;cases E6 aC args with
   |none=>rfl
   |some l=>
    dsimp only;have D:=I.1 f g N;rw[D.nat,D.nat (TV×St)];cases g (TV×Mem) l ⟨[],[]⟩ (λv m=>some (v,m))with
    |none=>rfl
    |some q=>
     obtain⟨v,⟨M,O⟩⟩:=q;simp only[af];cases M with
     |cons _ _=>rfl
     |nil=>
      cases O with
      |cons _ _=>rfl
      |nil=>
       dsimp only;cases((!(args.any TV.hasOwn)||v.flat)&&v.plainB)<;>rfl
 case callM f args=>
  cases N:C.spec f with
  |none=>rfl
  |some g=>
   dsimp only;have D:=I.1 f g N;cases T:C.keepR f
   case true=>
    simp only[ah,R3];cases Qd4 args with
    |none=>rfl
    |some id=>
     dsimp only;cases Ab aC id with
     |none=>rfl
     |some r=>
      dsimp only;rw[D.nat,D.nat (TV×St)];cases g (TV×Mem) (args.map (TV.ren (λk=>base+pos [] k) (λi=>base+pos [id] i))) ⟨[],[(base,r)]⟩ (λv m=>some (v,m))with
      |none=>rfl
      |some q=>
       obtain⟨v,⟨M,O⟩⟩:=q;simp only[af];cases M with
       |cons _ _=>rfl
       |nil=>
        cases O with
        |nil=>rfl
        |cons p l=>
         obtain⟨k,r'⟩:=p;cases l with
         |cons _ _=>rfl
         |nil=>
          dsimp only;cases(Nat.beq k base&&Nat.beq r'.ty r.ty&&Cy r'.ks r.ks&&v.plainB)
          ·rfl
          ·simp only[ah,AY];rfl
   simp only[aq];generalize Lv aB 4 (AV (cat AC.keys (cat TV.cellsOf args)) [])=keys;generalize NX aB (cat TV.cellsOf args) keys=ids;cases(Ak (TV.inK keys ids) args&&Ak (λk=>Ak (AC.inK keys ids) (Es aB k)) keys&&BH keys&&BH ids)
   ·rfl
   ·simp only[ah];cases C5 aB (λk=>base+pos keys k) (λi=>base+pos ids i) base keys with
    |none=>cases E1 aC base ids<;>rfl
    |some M=>
     cases E1 aC base ids with
     |none=>rfl
     |some O=>
      dsimp only;rw[D.nat,D.nat (TV×St)];cases g (TV×Mem) (args.map (TV.ren (λk=>base+pos keys k) (λi=>base+pos ids i))) ⟨M,O⟩ (λv m=>some (v,m))with
      |none=>rfl
      |some q=>
       obtain⟨v,⟨G,L⟩⟩:=q;simp only[af];cases(Ak (λp:Nat×Box=>Ea G p.1) M&&BH (G.map (·.1))&&BH (L.map (·.1))&&Ak (λk=>H1 aB (Bq keys (A3 keys G) (dst.getD 0) k)) (A3 keys G)&&Ak (λk=>H1 aC (Bq ids (A3 ids L) (dst.getD 0) k)) (A3 ids L)&&Nat.ble (A3 keys G).length 100&&Nat.ble (A3 ids L).length 100)<;>rfl
 case callF f args=>
  cases N:C.spec f with
  |none=>rfl
  |some g=>
   dsimp only;have D:=I.1 f g N;cases Ak TV.plainB args
   ·rfl
   ·simp only[ah];rw[D.nat,D.nat (TV×St)];cases g (TV×Mem) args ⟨[],[]⟩ (λv m=>some (v,m))with
    |none=>rfl
    |some q=>
     obtain⟨v,⟨M,O⟩⟩:=q;simp only[af];cases M with
     |cons _ _=>rfl
     |nil=>
      cases O with
      |nil=>dsimp only;cases v.plainB<;>rfl
      |cons p l=>
       obtain⟨k,r⟩:=p;cases l with
       |cons _ _=>rfl
       |nil=>
        dsimp only;split
        ·rename_i j w0 n0;cases Nat.beq j k
         ·rfl
         ·simp only[ah];cases Ab aC (Hz (dst.getD 0))<;>rfl
        ·rfl
 case callD f args=>
  cases N:C.spec f with
  |none=>rfl
  |some g=>
   dsimp only;have D:=I.1 f g N;generalize AV (cat AC.keys (cat TV.cellsOf args)) []=keys;cases(Ak (TV.inK keys []) args&&Ak (λk=>Ak AC.calm (Es aB k)) keys&&BH keys)
   ·rfl
   ·simp only[ah];cases C5 aB (λk=>base+pos keys k) (λi=>base+pos [] i) base keys with
    |none=>rfl
    |some M=>
     dsimp only;rw[D.nat,D.nat (TV×St)];cases g (TV×Mem) (args.map (TV.ren (λk=>base+pos keys k) (λi=>base+pos [] i))) ⟨M,[]⟩ (λv m=>some (v,m))with
     |none=>rfl
     |some q=>
      obtain⟨v,⟨G,L⟩⟩:=q;simp only[af];cases L with
      |cons _ _=>rfl
      |nil=>
       dsimp only;cases(Ak (λp:Nat×Box=>Ea G p.1) M&&Ak (λp:Nat×Box=>Ea M p.1) G&&BH (G.map (·.1))&&Ak (λp:Nat×Box=>Ak AC.calm p.2.cells) G&&v.plainB)<;>rfl
theorem UW:∀(l:List Nat) (s:St) (K:St->Option R),IC l s K=(IC l s some).bind K
 |[],s,K=>rfl
 |id::l,⟨tm,aB,aC⟩,K=>by
  simp only[IC,AY];cases Ab aC id with
  |none=>exact UW l _ K
  |some r=>exact UW l _ K
theorem Q0i (k o:Nat) (e:TypeId) (s:St) (K:St->Option R):Mh P k o e s K=(Mh P k o e s some).bind K:=by
 obtain⟨tm,aB,aC⟩:=s;simp only[Mh,AY];cases Ab aB k with
 |none=>rfl
 |some b=>
  dsimp only;cases nth .vD b.cells o<;>try rfl
  dsimp only;cases FW P 8 e with
  |none=>rfl
  |some ks=>
   dsimp only;cases(Nat.ble 1 ks.length&&H1 aC (1000000+1000*k+o))<;>rfl
theorem Qey:∀(l:List (Nat×Nat×TypeId)) (s:St) (K:St->Option R),Jb P l s K=(Jb P l s some).bind K
 |[],s,K=>rfl
 |(k,o,e)::l,s,K=>by
  simp only[Jb];rw[Q0i,Q0i (K:=λD=>Jb P l D some)];cases Mh P k o e s some with
  |none=>rfl
  |some D=>exact Qey l D K
theorem VB:∀(l:List (Nat×TypeId)) (s:St) (K:St->Option R),I8 P l s K=(I8 P l s some).bind K
 |[],s,K=>rfl
 |(t,e)::l,⟨tmps,aB,aC⟩,K=>by
  simp only[I8];split
  ·split
   ·rename_i ks _ _;cases Nat.ble 1 ks.length
    ·rfl
    ·simp only[ah,AY];exact VB l _ K
   ·rfl
  ·exact VB l _ K
theorem Zre (s:St) (K:St->Option R):H3 P C s K=(H3 P C s some).bind K:=by
 simp only[H3,AY];rw[Qey]
 conv=>rhs;rw[Qey]
 cases Jb P (cat (λp:Nat×Box=>bif AN C.ownBut p.1 then []else(C.ownOff p.2.ty).map λq=>(p.1,q.1,q.2)) s.aB) s some with
 |none=>rfl
 |some D=>exact VB _ _ K
theorem Qxk (o:Op) (s:St) (K:St->Option R):It P C o s K=(It P C o s some).bind K:=by
 unfold It;rw[UW]
 conv=>rhs;rw[UW]
 cases IC (Q95 C (AE s.tmps) o) s some with
 |none=>rfl
 |some D=>
  simp only[af];cases WY C o
  ·rfl
  ·exact Zre D K
theorem Zgu (I:Aj P C) (pre:Bool) (ops:List Oper) (o:Oper) (s:St) (K:Option Prim->St->Option R):E3 P C pre ops o s K=(E3 P C pre ops o s λp D=>some (p,D)).bind λq=>K q.1 q.2:=by
 have L:∀s:St,((bif pre then It P C o.op s else λK=>K s) λs=>opK P C (AE s.tmps) o.dst o.op λp=>A2 C o.dst (p.dr pre) s λv D=>put D o.dst v (K (some (p.dr pre))))=
   ((bif pre then It P C o.op s else λK=>K s) λs=>opK P C (AE s.tmps) o.dst o.op λp=>A2 C o.dst (p.dr pre) s λv D=>put D o.dst v ((λp D=>some (p,D)) (some (p.dr pre)))).bind λq=>K q.1 q.2:=by
  have M:∀s:St,(opK P C (AE s.tmps) o.dst o.op λp=>A2 C o.dst (p.dr pre) s λv D=>put D o.dst v (K (some (p.dr pre))))=(opK P C (AE s.tmps) o.dst o.op λp=>A2 C o.dst (p.dr pre) s λv D=>put D o.dst v ((λp D=>some (p,D)) (some (p.dr pre)))).bind λq=>K q.1 q.2:=by
   intro s;rw[QG]
   conv=>rhs;rw[QG]
   cases opK P C (AE s.tmps) o.dst o.op some with
   |none=>rfl
   |some p=>
    simp only[af];rw[Zeg I]
    conv=>rhs;rw[Zeg I]
    cases A2 C o.dst (p.dr pre) s λv D=>some (v,D)with
    |none=>rfl
    |some q=>simp only[af,L5]
  intro s;cases pre
  ·exact M s
  ·simp only[ah];rw[Qxk]
   conv=>rhs;rw[Qxk]
   cases It P C o.op s some with
   |none=>rfl
   |some D=>exact M D
 have G:∀s:St,put s o.dst (.tup []) (K none)=(put s o.dst (.tup []) ((λp D=>some (p,D)) none)).bind λq=>K q.1 q.2:=by
  intro s;simp only[L5,af]
 unfold E3 PP;cases o.guard with
 |none=>exact L s
 |some N=>
  obtain⟨j,want⟩:=N;dsimp only;cases ops[j]? with
  |none=>rfl
  |some O=>
   dsimp only;cases O.dst with
   |none=>rfl
   |some t=>
    dsimp only;split
    ·rename_i g _;cases g
     ·simp only[aq];rw[Fe]
      conv=>rhs;rw[Fe]
      cases want
      ·exact L _
      ·exact G _
     ·simp only[ah];rw[Fe]
      conv=>rhs;rw[Fe]
      cases want
      ·exact G _
      ·exact L _
    ·exact G _
    ·rfl
def BQ (ops:List Oper) (o:Oper) (tm:List TV):Option Bool:=
 match o.guard with
 |none=>some true
 |some (j,want)=>match ops[j]? with
  |some D=>match D.dst with
   |some t=>match nth .vD tm t with
    | .c (.bool g)=>some (g==want)
    | .tup []=>some false
    |_=>none
   |none=>none
  |none=>none
def B6 (ops:List Oper) (o:Oper) (s:St):Option (Option Prim×St):=
 match BQ ops o s.tmps with
 |some true=>(opK P C (AE s.tmps) o.dst o.op some).bind λp=>(EN (C:=C) o.dst (p.dr false) s).bind λq=>some (some (p.dr false),Sj q.2 o.dst q.1)
 |some false=>some (none,Sj s o.dst (.tup []))
 |none=>none
theorem Q68 {tm:List TV} {t:Nat} {v:TV} (h:nth .vD tm t=v) (G:v≠ .vD):setL tm t v=tm:=by
 rw[BU,List.getD]at h;rw[IB];cases D:tm[t]? with
 |none=>rw[D]at h;simp at h;exact absurd h.symm G
 |some u=>
  rw[D]at h;simp at h;subst h;apply gv;intro i;rw[iu];split
  ·rename_i e;subst e;split
   ·exact D.symm
   ·rename_i I;rw[de (by omega)]
  ·rfl
theorem Z1d (L:Aj P C) {ops:List Oper} {o:Oper} {s:St} {K:Option Prim->St->Option R} {r:R} (h:E3 P C false ops o s K=some r):
  (∃p G,B6 (P:=P) (C:=C) ops o s=some (p,G)/\K p G=some r)\/(∃p G,K (some p) G=some r/\Prim.simple (some p)=false):=by
 have M:∀s1:St,BQ ops o s.tmps=some true->s1=s->(opK P C (AE s1.tmps) o.dst o.op λp=>A2 C o.dst (p.dr false) s1 λv G=>put G o.dst v (K (some (p.dr false))))=some r->
   (∃p G,B6 (P:=P) (C:=C) ops o s=some (p,G)/\K p G=some r)\/(∃p G,K (some p) G=some r/\Prim.simple (some p)=false):=by
  rintro s1 O rfl h;rw[QG]at h;cases T:opK P C (AE s1.tmps) o.dst o.op some with
  |none=>rw[T]at h;simp at h
  |some p=>
   rw[T]at h;simp only[af]at h;cases V:Prim.simple (some (p.dr false))
   ·right;obtain⟨v,G,X⟩:=Zmk L h;rw[L5]at X;exact⟨p.dr false,_,X,V⟩
   ·left;rw[Q65 L V]at h;cases U:EN (C:=C) o.dst (p.dr false) s1 with
    |none=>rw[U]at h;simp at h
    |some q=>
     rw[U]at h;simp only[af,L5]at h;refine⟨some (p.dr false),_,?_,h⟩;simp only[B6,O,T,af,U]
 have I:∀s1:St,BQ ops o s.tmps=some false->s1=s->put s1 o.dst (.tup []) (K none)=some r->
   (∃p G,B6 (P:=P) (C:=C) ops o s=some (p,G)/\K p G=some r)\/(∃p G,K (some p) G=some r/\Prim.simple (some p)=false):=by
  rintro s1 O rfl h;rw[L5]at h;exact .inl ⟨none,_,by simp only[B6,O],h⟩
 unfold E3 PP at h;cases S:o.guard with
 |none=>
  rw[S]at h;exact M s (by simp[BQ,S]) rfl h
 |some jw=>
  obtain⟨j,want⟩:=jw;rw[S]at h;simp only at h;split at h
  ·rename_i oj Y;split at h
   ·rename_i t ht;split at h
    ·rename_i g N;have O:BQ ops o s.tmps=some (g==want):=by simp only[BQ,S,Y,ht,N]
     have D:∀b,g=b->(⟨setL s.tmps t (.c (.bool b)),s.aB,s.aC⟩:St)=s:=by
      rintro b rfl;rw[Q68 N (by simp)]
     cases g
     ·simp only[aq]at h;rw[Fe]at h;dsimp only at h;cases want
      ·exact M _ (by rw[O];rfl) (D false rfl) h
      ·exact I _ (by rw[O];rfl) (D false rfl) h
     ·simp only[ah]at h;rw[Fe]at h;dsimp only at h;cases want
      ·exact I _ (by rw[O];rfl) (D true rfl) h
      ·exact M _ (by rw[O];rfl) (D true rfl) h
    ·rename_i N;exact I _ (by simp only[BQ,S,Y,ht,N]) rfl h
    ·simp at h
   ·simp at h
  ·simp at h
def Ii (P:Program) (C:Cfg) (ops:List Oper) (m:List Nat) (i:Nat) (o:Oper) (s:St):Option (Option Prim×St):=
 if Dd ops m i=true then E3 P C true ops o s λp D=>some (p,D)else B6 (P:=P) (C:=C) ops o s
def RM (P:Program) (C:Cfg) (ops:List Oper) (m:List Nat):List (Nat×Oper×Option Prim)->St->St->Prop
 |[],s,D=>s=D
 |(i,o,p)::l,s,D=>∃s1,Ii P C ops m i o s=some (p,s1)/\RM P C ops m l s1 D
theorem Qai (D:Aj P C) {ops:List Oper} {m:List Nat}:∀(l:List Oper) (i:Nat) (s:St) (K:List (Oper×Option Prim)->St->Option R) (r:R),Nc P C ops m l i s K=some r->
  (∃(ps:List (Nat×Oper×Option Prim)) (G:St),ps.map (·.2.1)=l/\ps.map (·.1)=List.range' i l.length/\RM P C ops m ps s G/\K (ps.map (·.2)) G=some r)\/
  (∃(acc:List (Oper×Option Prim)) (G:St),K acc G=some r/\∃(j:Nat) (q:Oper×Option Prim),acc[j]? =some q/\(Dd ops m (i+j)||Prim.simple q.2)=false)
 |[],i,s,K,r,h=> .inl ⟨[],s,rfl,rfl,rfl,h⟩
 |o::l,i,s,K,r,h=>by
  simp only[Nc]at h;have I:(∃p s1,Ii P C ops m i o s=some (p,s1)/\Nc P C ops m l (i+1) s1 (λrest G=>K ((o,p)::rest) G)=some r)\/
    (∃p s1,Nc P C ops m l (i+1) s1 (λrest G=>K ((o,some p)::rest) G)=some r/\(Dd ops m i||Prim.simple (some p))=false):=by
   cases T:Dd ops m i
   ·rw[T]at h;rcases Z1d D h with⟨p,s1,L,M⟩|⟨p,s1,L,M⟩
    ·exact .inl ⟨p,s1,by unfold Ii;rw[ab (by rw[T];simp)];exact L,M⟩
    ·exact .inr ⟨p,s1,L,by simpa using M⟩
   ·rw[T,Zgu D]at h;cases U:E3 P C true ops o s λp X=>some (p,X)with
    |none=>rw[U]at h;simp at h
    |some q=>
     rw[U]at h;exact .inl ⟨q.1,q.2,by unfold Ii;rw[aa T];exact U,h⟩
  rcases I with⟨p,s1,L,M⟩|⟨p,s1,L,M⟩
  ·rcases Qai D l (i+1) s1 _ r M with⟨ps,G,N,O,S,V⟩|⟨acc,G,N,j,q,O,S⟩
   ·exact .inl ⟨(i,o,p)::ps,G,by simp[N],by simp[O,List.range'_succ],⟨s1,L,S⟩,V⟩
   ·exact .inr ⟨_,G,N,j+1,q,by simp[O],by rw[show i+(j+1)=i+1+j from by omega];exact S⟩
  ·rcases Qai D l (i+1) s1 _ r L with⟨ps,G,N,O,S,V⟩|⟨acc,G,N,j,q,O,S⟩
   ·exact .inr ⟨_,G,V,0,(o,some p),by simp,M⟩
   ·exact .inr ⟨_,G,N,j+1,q,by simp[O],by rw[show i+(j+1)=i+1+j from by omega];exact S⟩
end
end Go.Bm
set_option linter.unusedSimpArgs false
namespace Go.Bm
open Go.RowKit
section
variable {P:Program} {C:Cfg} {w:World} {R:Type} {Z:Base}
theorem S2 {G D:Operand->TV}:∀(l:List Operand),(∀x∈l,G x=D x)->BT G l=BT D l
 |[],_=>rfl
 |x::l,h=>by simp only[BT];rw[h x (by simp),S2 l λy I=>h y (by simp[I])]
theorem Ql9 {G D:Operand->TV}:∀(l:List (Nat×Operand)),(∀p∈l,G p.2=D p.2)->Fo G l=Fo D l
 |[],_=>rfl
 |x::l,h=>by simp only[Fo];rw[h x (by simp),Ql9 l λy I=>h y (by simp[I])]
theorem Zaq {G D:Operand->TV} (o:Option Operand) (h:∀x,o=some x->G x=D x):KK G o=KK D o:=by
 cases o with
 |none=>rfl
 |some x=>simp only[KK];rw[h x rfl]
theorem IZ {I D:Operand->TV} {dst:Option Tmp} {o:Op} (h:∀x∈o.operands,I x=D x) (K:Prim->Option R):opK P C I dst o K=opK P C D dst o K:=by
 cases o<;>simp only[Op.operands]at h<;>simp only[opK]
 case move x=>rw[h x (by simp)]
 case assign x=>rw[h x (by simp)]
 case pick c a b=>rw[h c (by simp),h a (by simp),h b (by simp)]
 case box t x=>rw[h x (by simp)]
 case build t parts=>rw[Ql9 parts.toList λp L=>h p.2 (by simp;exact⟨p.1,by simpa using L⟩)]
 case buildSlice t n parts=>rw[Ql9 parts.toList λp L=>h p.2 (by simp;exact⟨p.1,by simpa using L⟩)]
 case makeSlice t a b=>rw[h a (by simp),h b (by simp)]
 case makeFunc V a b=>
  rw[S2 a.toList λx G=>h x (by simp at G⊢;exact .inl G),S2 b.toList λx G=>h x (by simp at G⊢;exact .inr G)]
 case load t a=>rw[h a (by simp)]
 case store t a x=>rw[h a (by simp),h x (by simp)]
 case nilCheck x=>rw[h x (by simp)]
 case binOp op t x y _=>rw[h x (by simp),h y (by simp)]
 case unOp op t x=>rw[h x (by simp)]
 case convert s d x=>rw[h x (by simp)]
 case fieldAddr t x i=>rw[h x (by simp)]
 case field t x i=>rw[h x (by simp)]
 case indexAddr t x M=>rw[h x (by simp),h M (by simp)]
 case index t x M=>rw[h x (by simp),h M (by simp)]
 case slice t x lo S mx=>
  rw[h x (by simp),Zaq lo λy N=>h y (by simp[N]),Zaq S λy N=>h y (by simp[N])]
 case extract t i=>rw[h t (by simp)]
 case call c=>
  have T:∀t,c.callee= .value (.tmp t)->I (.tmp t)=D (.tmp t):=λt O=>h _ (by simp only[Call.operands,O];exact Array.mem_append.2 (.inl (by simp)));have U:BT I c.args.toList=BT D c.args.toList:=S2 _ λx G=>h x (by simp only[Call.operands];exact Array.mem_append.2 (.inr (by simpa using G)));rw[U];split
  ·rfl
  ·rfl
  ·rename_i t O;rw[T t O]
  ·rfl
theorem Qxi {tm:List TV} {d:Nat} {v:TV} {x:Operand} (h:x≠ .tmp d):AE (setL tm d v) x=AE tm x:=by
 cases x with
 |tmp t=>
  have D:d≠t:=λe=>h (by rw[e]);simp only[AE,BU,List.getD,IB,iu,ab D]
 |_=>rfl
def CK (tm:List TV) (d:Option Tmp) (v:TV):List TV:=
 match d with
 |none=>tm
 |some t=>setL tm t v
theorem K4 (tm:List TV) (bx:List (Nat×Box)) (aC:List (Nat×Row)) (d:Option Tmp) (v:TV):Sj ⟨tm,bx,aC⟩ d v=⟨CK tm d v,bx,aC⟩:=by cases d<;>rfl
theorem OC {tm:List TV} {d e:Option Tmp} (v u:TV) (h:∀t,d=some t->e≠some t):CK (CK tm d v) e u=CK (CK tm e u) d v:=by
 cases d with
 |none=>rfl
 |some t=>
  cases e with
  |none=>rfl
  |some q=>
   have D:t≠q:=λx=>h t rfl (by rw[x]);simp only[CK,IB];exact List.set_comm _ _ D
def Db (P:Program) (C:Cfg) (ops:List Oper) (o:Oper) (tm:List TV) (bx:List (Nat×Box)) (aC:List (Nat×Row)):Option (Option Prim×TV×List (Nat×Box)):=
 match BQ ops o tm with
 |some true=>(opK P C (AE tm) o.dst o.op some).bind λp=>(Au (C:=C) o.dst (p.dr false) bx aC).bind λq=>some (some (p.dr false),q.1,q.2)
 |some false=>some (none, .tup [],bx)
 |none=>none
theorem Zlb {d:Option Tmp} {p:Prim} {bx:List (Nat×Box)} {aC:List (Nat×Row)} (h:Prim.isApp (some p)=true):Au (C:=C) d p bx aC=none:=by
 cases p<;>simp[Prim.isApp]at h
 rfl
theorem Yc0 {d:Option Tmp} {p:Prim} {bx:List (Nat×Box)} {aC:List (Nat×Row)} (h:Prim.isMk (some p)=true):Au (C:=C) d p bx aC=none:=by
 cases p<;>simp[Prim.isMk]at h<;>rfl
theorem Zfk {ops:List Oper} {o:Oper} {tm:List TV} {bx D:List (Nat×Box)} {aC:List (Nat×Row)} {p:Option Prim} {v:TV} (h:Db P C ops o tm bx aC=some (p,v,D)):Prim.isMk p=false:=by
 unfold Db at h;split at h
 ·cases G:opK P C (AE tm) o.dst o.op some with
  |none=>rw[G]at h;simp at h
  |some q=>
   rw[G]at h;simp only[af]at h;cases I:Prim.isMk (some (q.dr false))with
   |true=>rw[Yc0 I]at h;simp at h
   |false=>
    cases L:Au (C:=C) o.dst (q.dr false) bx aC with
    |none=>rw[L]at h;simp at h
    |some z=>rw[L]at h;simp at h;rw[<-h.1];exact I
 ·simp at h;rw[<-h.1];rfl
 ·simp at h
theorem Zhw {ops:List Oper} {o:Oper} {tm:List TV} {bx D:List (Nat×Box)} {aC:List (Nat×Row)} {p:Option Prim} {v:TV} (h:Db P C ops o tm bx aC=some (p,v,D)):Prim.isApp p=false:=by
 unfold Db at h;split at h
 ·cases G:opK P C (AE tm) o.dst o.op some with
  |none=>rw[G]at h;simp at h
  |some q=>
   rw[G]at h;simp only[af]at h;cases I:Prim.isApp (some (q.dr false))with
   |true=>rw[Zlb I]at h;simp at h
   |false=>
    cases L:Au (C:=C) o.dst (q.dr false) bx aC with
    |none=>rw[L]at h;simp at h
    |some z=>rw[L]at h;simp at h;rw[<-h.1];exact I
 ·simp at h;rw[<-h.1];rfl
 ·simp at h
theorem OP {ops:List Oper} {o:Oper} {tm:List TV} {bx D:List (Nat×Box)} {aC:List (Nat×Row)} {p:Option Prim} {v:TV} (h:Db P C ops o tm bx aC=some (p,v,D)):
  B6 (P:=P) (C:=C) ops o ⟨tm,bx,aC⟩=some (p,⟨CK tm o.dst v,D,aC⟩):=by
 have G:=Zhw h;have I:=Zfk h;unfold Db at h;unfold B6;dsimp only;cases L:BQ ops o tm with
 |none=>rw[L]at h;simp at h
 |some b=>
  cases b
  ·rw[L]at h;simp at h;obtain⟨rfl,rfl,rfl⟩:=h;simp only[K4]
  ·rw[L]at h;dsimp only at h⊢;cases N:opK P C (AE tm) o.dst o.op some with
   |none=>rw[N]at h;simp at h
   |some q=>
    rw[N]at h;simp only[af]at h⊢;cases M:Au (C:=C) o.dst (q.dr false) bx aC with
    |none=>rw[M]at h;simp at h
    |some z=>
     rw[M]at h;simp at h;obtain⟨rfl,rfl,rfl⟩:=h;unfold EN;rw[G,I];simp only[aq,M,fu,af,K4]
theorem M0 {ops:List Oper} {o:Oper} {tm:List TV} {bx:List (Nat×Box)} {aC:List (Nat×Row)} {p:Option Prim} {M:St} (h:B6 (P:=P) (C:=C) ops o ⟨tm,bx,aC⟩=some (p,M)) (O:Prim.isApp p=false) (I:Prim.isMk p=false):
  ∃v G,Db P C ops o tm bx aC=some (p,v,G)/\M=⟨CK tm o.dst v,G,aC⟩:=by
 unfold B6 at h;unfold Db;dsimp only at h;cases L:BQ ops o tm with
 |none=>rw[L]at h;simp at h
 |some b=>
  cases b
  ·rw[L]at h;simp at h;obtain⟨rfl,rfl⟩:=h;exact⟨_,_,rfl,by rw[K4]⟩
  ·rw[L]at h;dsimp only at h⊢;cases N:opK P C (AE tm) o.dst o.op some with
   |none=>rw[N]at h;simp at h
   |some q=>
    rw[N]at h;simp only[af]at h⊢;cases D:EN (C:=C) o.dst (q.dr false) ⟨tm,bx,aC⟩with
    |none=>rw[D]at h;simp at h
    |some z=>
     rw[D]at h;simp at h;obtain⟨rfl,rfl⟩:=h;unfold EN at D;rw[O,I]at D;simp only[aq,bh]at D;obtain⟨y,S,rfl⟩:=D;rw[S];exact⟨_,_,rfl,by rw[K4]⟩
theorem Qih {ops:List Oper} {o:Oper} {tm:List TV} {bx:List (Nat×Box)} {aC:List (Nat×Row)} {p:Option Prim} {L:St} (h:B6 (P:=P) (C:=C) ops o ⟨tm,bx,aC⟩=some (p,L)) (M:Prim.isApp p=true):
  BQ ops o tm=some true/\∃q id v D,opK P C (AE tm) o.dst o.op some=some q/\p=some (q.dr false)/\KA o.dst (q.dr false)=some id/\KS o.dst aC (q.dr false)=some (v,D)/\L=⟨CK (tm.map (TV.kill id)) o.dst v,bx.map λp=>(p.1,p.2.kill id),D⟩:=by
 unfold B6 at h;dsimp only at h;cases I:BQ ops o tm with
 |none=>rw[I]at h;simp at h
 |some b=>
  cases b
  ·rw[I]at h;simp at h;obtain⟨rfl,rfl⟩:=h;simp[Prim.isApp]at M
  ·rw[I]at h;refine⟨rfl,?_⟩;dsimp only at h;cases N:opK P C (AE tm) o.dst o.op some with
   |none=>rw[N]at h;simp at h
   |some q=>
    rw[N]at h;simp only[af]at h;cases G:EN (C:=C) o.dst (q.dr false) ⟨tm,bx,aC⟩with
    |none=>rw[G]at h;simp at h
    |some z=>
     rw[G]at h;simp at h;obtain⟨rfl,rfl⟩:=h;unfold EN at G;rw[M]at G;simp only[ah]at G;split at G
     ·rename_i id hid;simp only[bh]at G;obtain⟨⟨y1,y2⟩,O,rfl⟩:=G;exact⟨q,id,y1,y2,rfl,rfl,hid,O,by unfold W_;rw[K4]⟩
     ·simp at G
theorem Q2v {ops:List Oper} {o:Oper} {tm:List TV} {bx:List (Nat×Box)} {aC D:List (Nat×Row)} {q:Prim} {id:Nat} {v:TV} (G:BQ ops o tm=some true) (I:opK P C (AE tm) o.dst o.op some=some q)
  (L:KA o.dst (q.dr false)=some id) (M:KS o.dst aC (q.dr false)=some (v,D)) (N:Prim.isApp (some (q.dr false))=true):
  B6 (P:=P) (C:=C) ops o ⟨tm,bx,aC⟩=some (some (q.dr false),⟨CK (tm.map (TV.kill id)) o.dst v,bx.map λp=>(p.1,p.2.kill id),D⟩):=by
 unfold B6;dsimp only;rw[G,I];simp only[af];unfold EN;rw[N];simp only[ah,L,M,fu,af,W_,K4]
theorem Ui {ops:List Oper} {o:Oper} {tm:List TV} {bx:List (Nat×Box)} {aC:List (Nat×Row)} {p:Option Prim} {N:St} (h:B6 (P:=P) (C:=C) ops o ⟨tm,bx,aC⟩=some (p,N)) (I:Prim.isMk p=true):
  BQ ops o tm=some true/\∃q v D,opK P C (AE tm) o.dst o.op some=some q/\p=some (q.dr false)/\mkD (C:=C) o.dst (q.dr false) aC=some (v,D)/\N=⟨CK tm o.dst v,bx,D⟩:=by
 unfold B6 at h;dsimp only at h;cases L:BQ ops o tm with
 |none=>rw[L]at h;simp at h
 |some b=>
  cases b
  ·rw[L]at h;simp at h;obtain⟨rfl,rfl⟩:=h;simp[Prim.isMk]at I
  ·rw[L]at h;refine⟨rfl,?_⟩;dsimp only at h;cases O:opK P C (AE tm) o.dst o.op some with
   |none=>rw[O]at h;simp at h
   |some q=>
    rw[O]at h;simp only[af]at h;cases G:EN (C:=C) o.dst (q.dr false) ⟨tm,bx,aC⟩with
    |none=>rw[G]at h;simp at h
    |some z=>
     rw[G]at h;simp at h;obtain⟨rfl,rfl⟩:=h;have M:Prim.isApp (some (q.dr false))=false:=by
      generalize q.dr false=S at I⊢;cases S<;>simp[Prim.isMk]at I<;>rfl
     unfold EN at G;rw[M,I]at G;simp only[aq,ah,bh]at G;obtain⟨⟨y1,y2⟩,T,rfl⟩:=G;exact⟨q,y1,y2,rfl,rfl,T,by rw[K4]⟩
theorem TR {ops:List Oper} {o:Oper} {tm:List TV} {bx:List (Nat×Box)} {aC D:List (Nat×Row)} {q:Prim} {v:TV} (L:BQ ops o tm=some true) (M:opK P C (AE tm) o.dst o.op some=some q)
  (N:mkD (C:=C) o.dst (q.dr false) aC=some (v,D)) (G:Prim.isMk (some (q.dr false))=true):
  B6 (P:=P) (C:=C) ops o ⟨tm,bx,aC⟩=some (some (q.dr false),⟨CK tm o.dst v,bx,D⟩):=by
 have I:Prim.isApp (some (q.dr false))=false:=by
  generalize q.dr false=O at G⊢;cases O<;>simp[Prim.isMk]at G<;>rfl
 unfold B6;dsimp only;rw[L,M];simp only[af];unfold EN;rw[I,G];simp only[ah,aq,N,fu,af,K4]
theorem Zml {id:Nat} {a:AC} (h:a.live=true):a.kill id=a:=by cases a<;>simp[AC.live]at h<;>rfl
theorem Zm1 {id:Nat} {a:AC} (h:(a.kill id).live=true):a.kill id=a:=by
 cases a<;>simp only[AC.kill]at h⊢<;>try rfl
 all_goals
  rename_i j b c;cases hb:Nat.beq j id<;>rw[hb]at h
  ·rfl
  ·simp[AC.live]at h
theorem RU {id:Nat}:∀{l:List AC},Ak AC.live l=true->l.map (AC.kill id)=l
 |[],_=>rfl
 |a::l,h=>by
  rw[Av]at h;simp only[bc];rw[Zml (h a (by simp)),RU (Av.2 λx D=>h x (by simp[D]))]
theorem SX {id:Nat}:∀{l:List AC},Ak AC.live (l.map (AC.kill id))=true->l.map (AC.kill id)=l
 |[],_=>rfl
 |a::l,h=>by
  rw[Av]at h;simp only[bc]at h⊢;rw[Zm1 (h _ (by simp)),SX (Av.2 λx D=>h x (by simp[D]))]
theorem U_ (id:Nat):∀(tm:List TV) (t:Nat),nth .vD (tm.map (TV.kill id)) t=(nth .vD tm t).kill id
 |[],_=>rfl
 |_::_,0=>rfl
 |_::tm,t+1=>U_ id tm t
theorem RO {id:Nat} {tm:List TV} {x:Operand} {g:Bool} {cs:List AC} (h:AE tm x= .v g cs) (D:Ak AC.live cs=true):AE (tm.map (TV.kill id)) x= .v g cs:=by
 cases x<;>try exact h
 simp only[AE]at h⊢;rw[U_,h];simp only[TV.kill];rw[RU D]
theorem QU {id:Nat} {tm:List TV} {x:Operand} {g:Bool} {cs:List AC} (h:AE (tm.map (TV.kill id)) x= .v g cs) (G:Ak AC.live cs=true):AE tm x= .v g cs:=by
 cases x<;>try exact h
 simp only[AE]at h⊢;rw[U_]at h;cases D:nth TV.vD tm (by assumption)with
 |vD=>rw[D]at h;simp[TV.kill]at h
 |tup ps=>rw[D]at h;simp[TV.kill]at h
 |v L I=>
  rw[D]at h;simp only[TV.kill,TV.v.injEq]at h;obtain⟨rfl,rfl⟩:=h;rw[SX G]
theorem Zk {q:Prim} (h:Prim.isPtr (some (q.dr false))=true):∃k o,q= .val (.v false [.ptr k o]):=by
 cases q<;>simp only[Prim.dr,Prim.isPtr]at h<;>try (simp at h;done)
 case callM f args=>cases hb:Ak TV.plainB args<;>simp[hb]at h
 rename_i v;split at h
 ·rename_i h';simp at h';exact⟨_,_,by rw[h']⟩
 ·simp at h
theorem Qjs {q:Prim} (h:Prim.isLive (some (q.dr false))=true):∃g cs,q= .val (.v g cs)/\Ak AC.live cs=true:=by
 cases q<;>simp only[Prim.dr,Prim.isLive]at h<;>try (simp at h;done)
 case callM f args=>cases hb:Ak TV.plainB args<;>simp[hb]at h
 rename_i v;cases v<;>simp at h
 exact⟨_,_,rfl,h⟩
theorem Zze {a:AC} (h:a.plain=true):a.live=true:=by cases a<;>simp[AC.plain]at h<;>rfl
theorem ST {l:List AC} (h:Ak AC.plain l=true):Ak AC.live l=true:=Av.2 λx D=>Zze (Av.1 h x D)
theorem Z4f {id:Nat}:∀{u:TV},(u.kill id).plainB=true->u.kill id=u
 | .vD,_=>rfl
 | .v g cs,h=>by simp only[TV.kill,TV.plainB]at h⊢;rw[SX (ST h)]
 | .tup ps,h=>by
  simp only[TV.kill,TV.plainB]at h⊢;congr 1;induction ps with
  |nil=>rfl
  |cons p ps D=>
   rw[Av]at h;simp only[bc]at h⊢;rw[SX (ST (h (p.1,p.2.map (AC.kill id)) (by simp))),D (Av.2 λx G=>h x (jo _ G))]
theorem Qdc {id:Nat}:∀{u:TV},u.plainB=true->u.kill id=u
 | .vD,_=>rfl
 | .v g cs,h=>by simp only[TV.kill,TV.plainB]at h⊢;rw[RU (ST h)]
 | .tup ps,h=>by
  simp only[TV.kill,TV.plainB]at h⊢;congr 1;induction ps with
  |nil=>rfl
  |cons p ps D=>
   rw[Av]at h;simp only[bc];rw[RU (ST (h p (by simp))),D (Av.2 λx G=>h x (jo _ G))]
theorem Zi1 {id:Nat} {tm:List TV} {x:Operand} {v:TV} (D:v.plainB=true):AE (tm.map (TV.kill id)) x=v↔AE tm x=v:=by
 cases x<;>try exact Iff.rfl
 simp only[AE];rw[U_];exact⟨λh=>by rw[<-h,Z4f (by rw[h];exact D)],λh=>by rw[h,Qdc D]⟩
theorem Zcc {id:Nat} {tm:List TV}:∀(l:List Operand) {D:List TV},Ak TV.plainB D=true->(BT (AE (tm.map (TV.kill id))) l=D↔BT (AE tm) l=D)
 |[],D,_=>Iff.rfl
 |x::l,[],_=>by simp[BT]
 |x::l,v::D,h=>by
  rw[Av]at h;simp only[BT,ed];rw[Zi1 (h v (by simp)),Zcc l (Av.2 λy G=>h y (by simp[G]))]
theorem Qz1 {q:Prim} (h:Prim.isCallP (some (q.dr false))=true):∃f args,q= .call f args/\Ak TV.plainB args=true:=by
 cases q<;>simp only[Prim.dr,Prim.isCallP]at h<;>try (simp at h;done)
 case callM f args=>cases hb:Ak TV.plainB args<;>simp[hb]at h
 exact⟨_,_,rfl,h⟩
theorem Qty {g:Int->Int->Int} {k:IntKind} {as:List TV} {f:FuncId}:∀{l:List TV} {a:Int},EV g k a l some≠some (.call f as)
 |[],a,h=>by simp[EV]at h
 |t::l,a,h=>by
  simp only[EV]at h;split at h
  ·rename_i k' b;cases hb:kEq k k'<;>rw[hb]at h
   ·simp at h
   ·exact Qty h
  ·simp at h
theorem Zv7 {b:Builtin} {D:List TypeId} {args as:List TV} {f:FuncId}:JM P b D args some≠some (.call f as):=by
 intro h;unfold JM at h
 repeat' split at h
 all_goals first|(simp at h;done)|skip
 all_goals first|(simp only[cond_eq_ite]at h;split at h<;>simp at h;done)|(simp only[cond_eq_ite]at h;repeat' split at h)|skip
 all_goals first|(simp at h;done)|exact Qty h
theorem Q15 {I:Operand->TV} {dst:Option Tmp} {c:Call} {f:FuncId} {args:List TV}:
  opK P C I dst (.call c) some=some (.call f args)↔c.callee= .value (.func f)/\C.pure f=true/\BT I c.args.toList=args:=by
 simp only[opK];split
 ·rename_i b hb;exact⟨λh=>absurd h Zv7,λh=>by rw[hb]at h;simp at h⟩
 ·rename_i g M;rw[M];cases L:C.pure g
  ·simp only[aq,an];exact⟨λh=>by simp at h,fun⟨D,G,_⟩=>by simp at D;subst D;rw[L]at G;simp at G⟩
  ·simp only[ah,an,Prim.call.injEq,Callee.value.injEq,Operand.func.injEq];exact⟨fun⟨D,G⟩=>⟨D,D▸L,G⟩,fun⟨D,_,G⟩=>⟨D,G⟩⟩
 ·rename_i t N;rw[N];constructor
  ·intro h;split at h
   ·rename_i g fs cs _;cases hb:(Ak AC.clOk fs&&Ak AC.clOk cs)<;>rw[hb]at h<;>simp at h
   ·simp at h
  ·intro h;simp at h
 ·rename_i D G O;exact⟨λh=>by simp at h,λh=>absurd h.1 (G f)⟩
theorem Qzn {q:Prim} (h:Prim.isLoad (some (q.dr false))=true):∃g sz key off,q= .load g sz key off:=by
 cases q<;>simp only[Prim.dr,Prim.isLoad]at h<;>try (simp at h;done)
 case callM f args=>cases hb:Ak TV.plainB args<;>simp[hb]at h
 exact⟨_,_,_,_,rfl⟩
theorem Qtd {D:Operand->TV} {dst:Option Tmp} {t:TypeId} {a:Operand} {g:Bool} {sz key off:Nat} (h:opK P C D dst (.load t a) some=some (.load g sz key off)):D a= .v false [.ptr key off]:=by
 simp only[opK]at h
 repeat' split at h
 all_goals first|(simp at h;done)|skip
 rename_i G;simp at h;obtain⟨_,_,rfl,rfl⟩:=h;exact G
theorem Z19 {id:Nat} {g:Bool} {sz off:Nat} {cells:List AC}:CN g sz (cells.map (AC.kill id)) off=(CN g sz cells off).map (TV.kill id):=by
 unfold CN;cases g
 ·simp only[aq,dy];cases cells[off]? <;>rfl
 ·simp only[ah,ag];cases Nat.ble (off+sz) cells.length
  ·rfl
  ·simp only[ah,fu,TV.agg,TV.kill,Z8i]
theorem Qvf {id:Nat}:∀(bx:List (Nat×Box)) (k:Nat),Ab (bx.map λp=>(p.1,p.2.kill id)) k=(Ab bx k).map (Box.kill id)
 |[],_=>rfl
 |(j,b)::bx,k=>by
  simp only[bc,Ab];cases Nat.beq j k
  ·exact Qvf bx k
  ·rfl
theorem Zu5 {k:Kd} {a b:AC} (h:P5 k a=some b):a.live=true:=by
 cases k<;>cases a<;>simp[P5]at h<;>rfl
theorem Q5z:∀{ks:List Kd} {cs c:List AC},Ft ks cs=some c->Ak AC.live cs=true
 |[],[],_,_=>rfl
 |[],_::_,_,h=>by simp[Ft]at h
 |_::_,[],_,h=>by simp[Ft]at h
 |k::ks,a::cs,c,h=>by
  simp only[Ft]at h;split at h
  ·rename_i L G;split at h
   ·rename_i c' I;have:=Av.1 (Q5z I);exact Av.2 λx D=>by
     rcases ay.1 D with rfl|D
     ·exact Zu5 G
     ·exact this x D
   ·simp at h
  ·simp at h
theorem Zae:∀{α:Type} (l v:List α),l.length=v.length->splice l 0 v=v
 |_,[],[],_=>rfl
 |_,[],_::_,h=>by simp at h
 |_,_::_,[],h=>by simp at h
 |_,x::l,y::v,h=>by simp only[splice];rw[Zae l v (by simpa using h)]
theorem Qs3 {D:Operand->TV} {dst:Option Tmp} {t:TypeId} {parts:Array (Nat×Operand)} {x:Operand} (N:parts.toList=[(0,x)]) {e:TypeId} {ks:List Kd} {l:List (List AC)}
  (h:opK P C D dst (.buildSlice t 1 parts) some=some (.newView e ks l)):∃g cs,D x= .v g cs/\Ak AC.live cs=true:=by
 simp only[opK,N,Fo]at h;split at h
 ·split at h
  ·rename_i w z G _ _ _;cases hb:(Nat.beq z.length w&&Nat.beq G.length w&&Nat.ble 1 w&&Nat.ble (1*w) 65536)<;>rw[hb]at h
   ·simp at h
   ·simp only[ah]at h;simp only[ak,Nat.beq_eq]at hb;obtain⟨⟨⟨O,T⟩,_⟩,_⟩:=hb;cases I:D x with
    |vD=>rw[I]at h;simp[Gf,TV.cells]at h
    |tup ps=>rw[I]at h;simp[Gf,TV.cells]at h
    |v g cs=>
     refine⟨g,cs,rfl,?_⟩;rw[I]at h;simp only[Gf,TV.cells]at h;cases L:(Nat.beq cs.length w&&Nat.ble (0*w+w) (chunk z 1).length)<;>rw[L]at h
     ·simp at h
     ·simp only[ah]at h;simp only[ak,Nat.beq_eq]at L;rw[show splice (chunk z 1) (0*w) cs=cs from by
       rw[gz];exact Zae _ _ (by simp[chunk,O,L.1])]at h
      split at h
      ·rename_i U M;simp only[HB]at M;split at M
       ·rename_i c hf;rw[f9 (by omega)]at hf;exact Q5z hf
       ·simp at M
      ·cases S:(Ak AC.isClo cs&&Nat.beq w 1)<;>rw[S]at h<;>simp at h
  ·simp at h
 ·simp at h
theorem Zwh {l:List (Nat×Operand)} (h:oneP l=true):∃x,l=[(0,x)]:=by
 match l,h with
 |[(0,x)],_=>exact⟨x,rfl⟩
theorem Zdd {q:Prim} (h:Prim.isView (some (q.dr false))=true):∃e ks l,q= .newView e ks l:=by
 cases q<;>simp only[Prim.dr,Prim.isView]at h<;>try (simp at h;done)
 case callM f args=>cases hb:Ak TV.plainB args<;>simp[hb]at h
 exact⟨_,_,_,rfl⟩
theorem Qw5 {id:Nat} {tm:List TV} {dst:Option Tmp} {o:Op} {q:Prim} (G:Prim.still o (some (q.dr false))=true):
  opK P C (AE (tm.map (TV.kill id))) dst o some=some q↔opK P C (AE tm) dst o some=some q:=by
 cases o<;>simp[Prim.still]at G
 case call c=>
  obtain⟨f,args,rfl,T⟩:=Qz1 G;rw[Q15,Q15,Zcc _ T]
 case build t parts=>
  have key:∀x∈(Op.build t parts).operands,AE (tm.map (TV.kill id)) x=AE tm x:=by
   intro x L;simp only[Op.operands]at L;simp at L;obtain⟨a,S⟩:=L;have:=Av.1 G.1 (a,x) (by simpa using S);cases x<;>simp[Zbv]at this
   rfl
  rw[IZ key]
 case load t a=>
  obtain⟨g,sz,key,off,rfl⟩:=Qzn G;have I:Ak AC.live [AC.ptr key off]=true:=rfl;constructor
  ·intro h;have e:=Qtd h;have e2:=QU e I;rw[<-h];refine IZ (λy D=> ?_) some;simp only[Op.operands]at D;simp at D;subst D;rw[e,e2]
  ·intro h;have e:=Qtd h;have e2:=RO (id:=id) e I;rw[<-h];refine IZ (λy D=> ?_) some;simp only[Op.operands]at D;simp at D;subst D;rw[e,e2]
 case buildSlice t n parts=>
  obtain⟨⟨rfl,U⟩,V⟩:=G;obtain⟨x,L⟩:=Zwh U;obtain⟨e,ks,l,rfl⟩:=Zdd V;have N:∀y∈(Op.buildSlice t 1 parts).operands,y=x:=by
   intro y D;simp only[Op.operands]at D;simp at D;obtain⟨a,S⟩:=D;have:(a,y)∈parts.toList:=by simpa using S
   rw[L]at this;simp at this;exact this.2
  constructor
  ·intro h;obtain⟨g,cs,e1,I⟩:=Qs3 L h;have e2:=QU e1 I;rw[<-h];refine IZ (λy D=> ?_) some;rw[N y D,e1,e2]
  ·intro h;obtain⟨g,cs,e1,I⟩:=Qs3 L h;have e2:=RO (id:=id) e1 I;rw[<-h];refine IZ (λy D=> ?_) some;rw[N y D,e1,e2]
 case move x=>
  obtain⟨g,cs,rfl,G⟩:=Qjs G;simp only[opK,an,Prim.val.injEq];exact⟨λh=>QU h G,λh=>RO h G⟩
 case nilCheck x=>
  obtain⟨k,o,rfl⟩:=Zk G;have I:Ak AC.live [AC.ptr k o]=true:=rfl;have key:∀M:Operand->TV,opK P C M dst (.nilCheck x) some=some (.val (.v false [.ptr k o]))↔M x= .v false [.ptr k o]:=by
   intro M;simp only[opK];split
   ·rename_i k' O h;rw[h];simp[TV.c]
   ·rename_i h;rw[h];simp[TV.c]
   ·rename_i h;rw[h];simp[TV.c]
   ·rename_i X Y h3;constructor
    ·intro h;simp at h
    ·intro h;exact(X _ _ h).elim
  rw[key,key];exact⟨λh=>QU h I,λh=>RO h I⟩
 case fieldAddr t x i=>
  obtain⟨k,o,rfl⟩:=Zk G;have key:∀M:Operand->TV,opK P C M dst (.fieldAddr t x i) some=some (.val (.v false [.ptr k o]))->∃k' O,M x= .v false [.ptr k' O]:=by
   intro M h;simp only[opK]at h
   repeat' split at h
   all_goals first|(simp at h;done)|(simp[TV.c]at h;done)|exact⟨_,_,by assumption⟩
  constructor
  ·intro h;obtain⟨k',O,e⟩:=key _ h;have e2:=QU e rfl;rw[<-h];refine IZ (λy D=> ?_) some;simp only[Op.operands]at D;simp at D;subst D;rw[e,e2]
  ·intro h;obtain⟨k',O,e⟩:=key _ h;have e2:=RO (id:=id) e rfl;rw[<-h];refine IZ (λy D=> ?_) some;simp only[Op.operands]at D;simp at D;subst D;rw[e,e2]
theorem Qz3 {id:Nat} {tm:List TV} {d:Option Tmp} {v:TV}:(CK tm d v).map (TV.kill id)=CK (tm.map (TV.kill id)) d (v.kill id):=by
 cases d with
 |none=>rfl
 |some t=>simp only[CK,IB,List.map_set]
theorem QH {ops:Array Oper} {o:Oper} {tm:List TV} {d:Option Tmp} {v:TV} (h:∀t,d=some t->t∉o.looksAt ops):BQ ops.toList o (CK tm d v)=BQ ops.toList o tm:=by
 cases d with
 |none=>rfl
 |some t=>
  have L:=h t rfl;unfold BQ;cases M:o.guard with
  |none=>rfl
  |some N=>
   obtain⟨j,want⟩:=N;dsimp only;cases O:ops.toList[j]? with
   |none=>rfl
   |some I=>
    dsimp only;cases S:I.dst with
    |none=>rfl
    |some q=>
     dsimp only;have D:ops[j]? =some I:=by simpa using O
     have G:t≠q:=by
      rintro rfl;exact L (by simp[Oper.looksAt,M,D,S])
     have:nth .vD (CK tm (some t) v) q=nth .vD tm q:=by
      simp only[CK,BU,List.getD,IB,iu,ab G]
     rw[this]
theorem TY {ops:Array Oper} {o:Oper} {tm:List TV} {bx:List (Nat×Box)} {aC:List (Nat×Row)} {d:Option Tmp} {v:TV} (h:∀t,d=some t->t∉o.looksAt ops):
  Db P C ops.toList o (CK tm d v) bx aC=Db P C ops.toList o tm bx aC:=by
 unfold Db;rw[QH h];cases d with
 |none=>rfl
 |some t=>
  have D:=h t rfl;rw [show opK P C (AE (CK tm (some t) v)) o.dst o.op some = opK P C (AE tm) o.dst o.op some from IZ (λx G => Qxi (by
   rintro rfl;exact D (List.mem_append_left _ (List.mem_filterMap.2 ⟨.tmp t,by simpa using G,rfl⟩)))) some]
theorem JR {a b:Nat} (h:a≠b):Nat.beq a b=false:=Kl h
theorem VT {α:Type}:∀(l:List (Nat×α)) (k j:Nat) (x y:α),k≠j->upd (upd l k x) j y=upd (upd l j y) k x
 |[],_,_,_,_,_=>rfl
 |(i,b)::l,k,j,x,y,h=>by
  by_cases D:i=k
  ·subst D;simp only[upd,jj,ah,JR h,aq]
  ·by_cases G:i=j
   ·subst G;simp only[upd,jj,ah,JR D,aq]
   ·simp only[upd,JR D,JR G,aq];rw[VT l k j x y h]
theorem GW {a b:Nat} (h:a<b):Nat.blt a b=true:=by simpa using h
theorem Gx {a b:Nat} (h: ¬a<b):Nat.blt a b=false:=by
 cases hb:Nat.blt a b
 ·rfl
 ·simp at hb;omega
theorem Qaa {α:Type}:∀(l:List (Nat×α)) (k j:Nat) (x y:α),k≠j->ins (ins l k x) j y=ins (ins l j y) k x
 |[],k,j,x,y,h=>by
  by_cases D:j<k
  ·simp only[ins,GW D,ah,Gx (show¬k<j by omega),aq]
  ·simp only[ins,Gx D,aq,GW (show k<j by omega),ah]
 |(i,b)::l,k,j,x,y,h=>by
  by_cases D:k<i<;>by_cases G:j<i
  ·by_cases I:j<k
   ·simp only[ins,GW D,GW G,GW I,Gx (show¬k<j by omega),ah,aq]
   ·simp only[ins,GW D,GW G,Gx I,GW (show k<j by omega),ah,aq]
  ·simp only[ins,GW D,Gx G,Gx (show¬j<k by omega),ah,aq]
  ·simp only[ins,Gx D,GW G,Gx (show¬k<j by omega),ah,aq]
  ·simp only[ins,Gx D,Gx G,aq];rw[Qaa l k j x y h]
theorem SP {α:Type}:∀(l:List (Nat×α)) (k j:Nat) (x y:α),k≠j->upd (ins l k x) j y=ins (upd l j y) k x
 |[],k,j,x,y,h=>by simp only[ins,upd,JR h,aq]
 |(i,b)::l,k,j,x,y,h=>by
  by_cases D:k<i<;>by_cases G:i=j
  ·subst G;simp only[ins,upd,GW D,JR h,jj,ah,aq]
  ·simp only[ins,upd,GW D,JR h,JR G,ah,aq]
  ·subst G;simp only[ins,upd,Gx D,jj,ah,aq]
  ·simp only[ins,upd,Gx D,JR G,aq];rw[SP l k j x y h]
theorem Jr {d:Option Tmp} {f:FuncId} {args:List TV} {bx D:List (Nat×Box)} {aC:List (Nat×Row)} {v:TV} (h:Au (C:=C) d (.call f args) bx aC=some (v,D)):
  D=bx/\∀(N:Option Tmp) (G:List (Nat×Box)),Au (C:=C) N (.call f args) G aC=some (v,G):=by
 simp only[Au]at h⊢;cases I:C.spec f with
 |none=>rw[I]at h;simp at h
 |some g=>
  rw[I]at h;dsimp only at h⊢;cases L:E6 aC args with
  |none=>rw[L]at h;simp at h
  |some l=>
   rw[L]at h;dsimp only at h⊢;cases M:g (TV×Mem) l ⟨[],[]⟩ (λv m=>some (v,m))with
   |none=>rw[M]at h;simp at h
   |some q=>
    rw[M]at h;obtain⟨u,⟨O,S⟩⟩:=q;cases O with
    |cons _ _=>simp at h
    |nil=>
     cases S with
     |cons _ _=>simp at h
     |nil=>
      dsimp only at h⊢;split at h
      ·rename_i T;simp at h;obtain⟨rfl,rfl⟩:=h;refine⟨rfl,λ_ _=> ?_⟩;rw[aa T]
      ·simp at h
theorem Qwz {aC rows':List (Nat×Row)}:∀{args:List TV},Ak TV.plainB args=true->E6 aC args=E6 rows' args:=by
 have L:∀{l:List AC},Ak AC.plain l=true->Eo aC l=Eo rows' l:=by
  intro l;induction l with
  |nil=>intro _;rfl
  |cons a l D=>
   intro h;rw[Av]at h;simp only[Eo];rw[D (Av.2 λx G=>h x (by simp[G]))];have I:=h a (by simp);cases a<;>simp[AC.plain]at I<;>rfl
 intro args;induction args with
 |nil=>intro _;rfl
 |cons a l D=>
  intro h;rw[Av]at h;simp only[E6];rw[D (Av.2 λx G=>h x (by simp[G]))];have I:=h a (by simp);have:a.res aC=a.res rows':=by
   cases a with
   |vD=>rfl
   |tup ps=>rfl
   |v g cs=>simp only[TV.res];rw[L I]
  rw[this]
theorem Qw2 {d:Option Tmp} {f:FuncId} {args:List TV} {bx D:List (Nat×Box)} {aC:List (Nat×Row)} {v:TV} (h:Au (C:=C) d (.call f args) bx aC=some (v,D)):v.plainB=true:=by
 simp only[Au]at h
 repeat' split at h
 all_goals first|(simp at h;done)|skip
 rename_i G;simp at h;obtain⟨rfl,rfl⟩:=h;rw[ak]at G;exact G.2
def Qgs (C:Cfg) (id:Nat) (d:Option Tmp) (bx:List (Nat×Box)) (q:Prim):Prop:=
  (∀{v G aC},Au (C:=C) d (q.dr false) bx aC=some (v,G)->G=bx/\∀D,Au (C:=C) d (q.dr false) (bx.map λp=>(p.1,p.2.kill id)) D=some (v.kill id,bx.map λp=>(p.1,p.2.kill id)))/\
  ∀{v G aC},Au (C:=C) d (q.dr false) (bx.map λp=>(p.1,p.2.kill id)) aC=some (v,G)->G=(bx.map λp=>(p.1,p.2.kill id))/\∃u,u.kill id=v/\∀D,Au (C:=C) d (q.dr false) bx D=some (u,bx)
theorem Q3s {id:Nat} {o:Op} {q:Prim} {d:Option Tmp} {bx:List (Nat×Box)} (I:Prim.still o (some (q.dr false))=true):Qgs C id d bx q:=by
 have M:∀g cs,q= .val (.v g cs)->Ak AC.live cs=true->Qgs C id d bx q:=by
  rintro g cs rfl L;have e:(TV.v g cs).kill id= .v g cs:=by simp only[TV.kill];rw[RU L]
  refine⟨fun{v D aC} h=> ?_,fun{v D aC} h=> ?_⟩
  ·simp only[Prim.dr,Au,an,cg]at h;obtain⟨rfl,rfl⟩:=h;exact⟨rfl,λ_=>by rw[e];rfl⟩
  ·simp only[Prim.dr,Au,an,cg]at h;obtain⟨rfl,rfl⟩:=h;exact⟨rfl,_,e,λ_=>rfl⟩
 cases o<;>simp[Prim.still]at I
 case call c=>
  obtain⟨f,args,rfl,O⟩:=Qz1 I;refine⟨fun{v D aC} h=> ?_,fun{v D aC} h=> ?_⟩
  ·obtain⟨rfl,N⟩:=Jr h;refine⟨rfl,λG=> ?_⟩;rw[Qdc (Qw2 h)];have:=N d (D.map λp=>(p.1,p.2.kill id));simp only[Prim.dr,Au]at this⊢;rw[Qwz (aC:=G) (rows':=aC) O];exact this
  ·obtain⟨rfl,N⟩:=Jr h;refine⟨rfl,v,Qdc (Qw2 h),λG=> ?_⟩;have:=N d bx;simp only[Prim.dr,Au]at this⊢;rw[Qwz (aC:=G) (rows':=aC) O];exact this
 case load t a=>
  obtain⟨g,sz,key,off,rfl⟩:=Qzn I;simp only[Qgs,Prim.dr,Au,Qvf];cases Ab bx key with
  |none=>exact⟨fun{v D aC} h=>by simp at h,fun{v D aC} h=>by simp at h⟩
  |some b=>
   simp only[fu,Box.kill,Z19];cases CN g sz b.cells off with
   |none=>exact⟨fun{v D aC} h=>by simp at h,fun{v D aC} h=>by simp at h⟩
   |some u=>
    refine⟨fun{v D aC} h=> ?_,fun{v D aC} h=> ?_⟩
    ·simp at h;obtain⟨rfl,rfl⟩:=h;exact⟨rfl,λ_=>rfl⟩
    ·simp at h;obtain⟨rfl,rfl⟩:=h;exact⟨rfl,u,rfl,λ_=>rfl⟩
 case move x=>obtain⟨g,cs,rfl,L⟩:=Qjs I;exact M _ _ rfl L
 case build t parts=>obtain⟨g,cs,rfl,L⟩:=Qjs I.2;exact M _ _ rfl L
 case buildSlice t n parts=>
  obtain⟨e,ks,l,rfl⟩:=Zdd I.2;refine⟨fun{v D aC} h=> ?_,fun{v D aC} h=> ?_⟩
  ·simp only[Prim.dr,Au,an,cg]at h;obtain⟨rfl,rfl⟩:=h;exact⟨rfl,λ_=>rfl⟩
  ·simp only[Prim.dr,Au,an,cg]at h;obtain⟨rfl,rfl⟩:=h;exact⟨rfl,_,rfl,λ_=>rfl⟩
 all_goals
  obtain⟨k,o,rfl⟩:=Zk I;exact M _ _ rfl rfl
theorem OQ {d:Option Tmp} {g:Bool} {sz id idx sub:Nat} {bx D:List (Nat×Box)} {aC:List (Nat×Row)} {v:TV} (h:Au (C:=C) d (.rload g sz id idx sub) bx aC=some (v,D)):
  D=bx/\∀(G:Option Tmp) (b':List (Nat×Box)),Au (C:=C) G (.rload g sz id idx sub) b' aC=some (v,b'):=by
 simp only[Au]at h⊢
 repeat' split at h
 all_goals first|(simp at h;done)|skip
 simp at h;obtain⟨rfl,rfl⟩:=h;exact⟨rfl,λ_ _=>rfl⟩
theorem Q23 {n k:Nat}:∀{l:List Nat},k∈QF n l↔k=n\/k∈l
 |[]=>by simp[QF]
 |m::l=>by
  simp only[QF];cases hb:Nat.beq m n
  ·simp only[aq,ay,Q23 (l:=l)];constructor
   ·rintro(h|h|h)<;>simp[h]
   ·rintro(h|h|h)<;>simp[h]
  ·have:=ac hb;subst this;simp only[ah,ay];constructor
   ·rintro(h|h)<;>simp[h]
   ·rintro(h|h|h)<;>simp[h]
theorem Q2e {k:Nat}:∀{ns l:List Nat},k∈AV ns l↔k∈ns\/k∈l
 |[],l=>by simp[AV]
 |n::ns,l=>by
  simp only[AV,Q2e (ns:=ns),Q23,ay];constructor
  ·rintro(h|h|h)<;>simp[h]
  ·rintro((h|h)|h)<;>simp[h]
theorem UA {α β:Type} {g:α->List β} {x:β}:∀{l:List α},x∈cat g l↔∃a∈l,x∈g a
 |[]=>by simp[cat]
 |a::l=>by simp[cat,UA (l:=l)]
theorem TE {k:Nat}:∀{l:List AC},k∈AC.keys.keysL l->∃o,AC.ptr k o∈l
 |[],h=>by simp[AC.keys.keysL]at h
 |a::l,h=>by
  cases a
  case ptr j o=>
   simp only[AC.keys.keysL,ay]at h;rcases h with rfl|h
   ·exact⟨o,by simp⟩
   ·obtain⟨D,h'⟩:=TE h;exact⟨D,by simp[h']⟩
  all_goals
   simp only[AC.keys.keysL]at h;obtain⟨D,h'⟩:=TE h;exact⟨D,by simp[h']⟩
theorem Z28 {bx:List (Nat×Box)} {aC:List (Nat×Row)} {args:List TV} (h:∀v∈args,TV.wf bx aC v) {k:Nat} (N:k∈AV (cat AC.keys (cat TV.cellsOf args)) []):∃b,Ab bx k=some b:=by
 simp only[Q2e,List.not_mem_nil,or_false]at N;obtain⟨a,S,D⟩:=UA.1 N;obtain⟨v,T,G⟩:=UA.1 S;have O:=h v T;have I:AC.wf bx aC a:=by
  cases v with
  |vD=>simp[TV.cellsOf]at G
  |v g cs=>exact O a G
  |tup ps=>
   simp only[TV.cellsOf]at G;obtain⟨p,U,L⟩:=UA.1 G;exact O p U a L
 cases a
 case ptr j o=>simp[AC.keys]at D;subst D;exact I
 case bsl j o=>simp[AC.keys]at D;subst D;exact I
 case clo f fs cs=>
  simp only[AC.keys,bj]at D;rcases D with D|D
  ·obtain⟨o,M⟩:=TE D;exact I.1 _ M
  ·obtain⟨o,M⟩:=TE D;exact I.2 _ M
 all_goals simp[AC.keys]at D
theorem Zbf {bx D:List (Nat×Box)} {G ri:Nat->Nat}:∀(keys:List Nat) (b:Nat),(∀k∈keys,Ab D k=Ab bx k)->C5 D G ri b keys=C5 bx G ri b keys
 |[],_,_=>rfl
 |k::keys,b,h=>by
  simp only[C5];rw[h k (by simp),Zbf keys (b+1) λj I=>h j (by simp[I])]
theorem Q6w {α:Type} {p q:α->Bool}:∀{l:List α},(∀x∈l,p x=q x)->Ak p l=Ak q l
 |[],_=>rfl
 |a::l,h=>by simp only[Ak];rw[h a (by simp),Q6w (l:=l) λx D=>h x (by simp[D])]
theorem L3 {keys:List Nat}:∀(m:List (Nat×Box)) (l:List (Nat×Box)) (n:Nat),(∀p∈m,n≠nth 0 keys (p.1-base))->Ab (Cr keys m l) n=Ab l n
 |[],_,_,_=>rfl
 |(j,c)::m,l,n,h=>by
  simp only[Cr];rw[L3 m _ n λp D=>h p (by simp[D])];exact Dc _ _ _ _ (h (j,c) (by simp))
theorem Qf3 {keys:List Nat}:∀(m:List (Nat×Box)) (l:List (Nat×Box)) (n:Nat) (x:Box),(∀p∈m,n≠nth 0 keys (p.1-base))->Cr keys m (upd l n x)=upd (Cr keys m l) n x
 |[],_,_,_,_=>rfl
 |(j,c)::m,l,n,x,h=>by
  simp only[Cr];rw[VT _ _ _ _ _ (h (j,c) (by simp)),Qf3 m _ n x λp D=>h p (by simp[D])]
theorem Qbo {keys:List Nat}:∀(m:List (Nat×Box)) (l:List (Nat×Box)) (n:Nat) (x:Box),(∀p∈m,n≠nth 0 keys (p.1-base))->Cr keys m (ins l n x)=ins (Cr keys m l) n x
 |[],_,_,_,_=>rfl
 |(j,c)::m,l,n,x,h=>by
  simp only[Cr];rw[SP _ _ _ _ _ (h (j,c) (by simp)),Qbo m _ n x λp D=>h p (by simp[D])]
theorem US {d:Option Tmp} {f:FuncId} {args:List TV} {bx L:List (Nat×Box)} {aC:List (Nat×Row)} {v:TV} (h:Au (C:=C) d (.callD f args) bx aC=some (v,L)):
  ∃D,L=Cr (AV (cat AC.keys (cat TV.cellsOf args)) []) D bx/\(∀p∈D,nth 0 (AV (cat AC.keys (cat TV.cellsOf args)) []) (p.1-base)∈AV (cat AC.keys (cat TV.cellsOf args)) [])/\v.plainB=true/\
   ∀(O:Option Tmp) (I:List (Nat×Box)),(∀k∈AV (cat AC.keys (cat TV.cellsOf args)) [],Ab I k=Ab bx k)->Au (C:=C) O (.callD f args) I aC=some (v,Cr (AV (cat AC.keys (cat TV.cellsOf args)) []) D I):=by
 simp only[Au]at h⊢;generalize AV (cat AC.keys (cat TV.cellsOf args)) []=keys at h⊢;cases S:C.spec f with
 |none=>rw[S]at h;simp at h
 |some g=>
  rw[S]at h;dsimp only at h⊢;split at h
  ·rename_i U;split at h
   ·rename_i mb M;split at h
    ·rename_i v' D V;split at h
     ·rename_i N;simp only[an,cg]at h;obtain⟨rfl,rfl⟩:=h;have G:=N;simp only[ak]at G;refine⟨D,rfl,λp X=> ?_,G.2,λO I T=> ?_⟩
      ·obtain⟨b,hb⟩:=T6 (Av.1 G.1.1.1.2 p X);obtain⟨i,Y,e⟩:=(Kt M).2 _ _ hb;rw[e,show base+i-base=i from by omega];exact Fj Y
      ·rw[Q6w (q:=λk=>Ak AC.calm (Es bx k)) (λk hk=>by unfold Es;rw[T k hk]),Zbf keys base T,M,aa U];dsimp only;rw[V];dsimp only;rw[aa N]
     ·simp at h
    ·simp at h
   ·simp at h
  ·simp at h
theorem Rs {keys:List Nat}:∀(m:List (Nat×Box)) (l:List (Nat×Box)) {n:Nat} {b:Box},Ab l n=some b->∃b',Ab (Cr keys m l) n=some b'
 |[],_,_,b,h=>⟨b,h⟩
 |(j,c)::m,l,n,b,h=>by
  simp only[Cr];by_cases e:n=nth 0 keys (j-base)
  ·subst e;exact Rs m _ (EB _ _ _ _ h)
  ·exact Rs m _ (b:=b) (by rw[Dc _ _ _ _ e];exact h)
theorem Z7x {d:Option Tmp} {f:FuncId} {args:List TV} {bx D:List (Nat×Box)} {aC:List (Nat×Row)} {v:TV} (h:Au (C:=C) d (.callD f args) bx aC=some (v,D)):
  ∀k∈AV (cat AC.keys (cat TV.cellsOf args)) [],∃b,Ab bx k=some b:=by
 simp only[Au]at h;generalize AV (cat AC.keys (cat TV.cellsOf args)) []=keys at h⊢;split at h
 ·split at h
  ·split at h
   ·rename_i L G;intro k I;obtain⟨x,q,_⟩:=(Kt G).1 (pos keys k) (C6 I).1;rw[(C6 I).2]at q;exact⟨x,q⟩
   ·simp at h
  ·simp at h
 ·simp at h
theorem Qut {α:Type}:∀(l:List (Nat×α)) (k:Nat) (x:α),Ab l k=some x->upd l k x=l
 |[],_,_,_=>rfl
 |(j,b)::l,k,x,h=>by
  simp only[Ab,upd]at h⊢;cases D:Nat.beq j k
  ·rw[D]at h;simp only[aq]at h⊢;rw[Qut l k x h]
  ·rw[D]at h;simp only[ah,an]at h⊢;rw[h,ac D]
theorem Q1i {keys:List Nat} {bx:List (Nat×Box)} {rk ri:Nat->Nat}:∀(ks pre:List Nat) (G:List (Nat×Box)),keys=pre++ks->C5 bx rk ri (base+pre.length) ks=some G->(∀k∈ks,Ak AC.calm (Es bx k)=true)->Cr keys G bx=bx
 |[],_,G,_,h,_=>by simp[C5]at h;subst h;rfl
 |k::ks,pre,G,I,h,L=>by
  simp only[C5]at h;split at h
  ·rename_i x M;split at h
   ·rename_i l N;simp only[an]at h;subst h;simp only[Cr];have O:nth 0 keys (base+pre.length-base)=k:=by
     rw[show base+pre.length-base=pre.length from by omega,BU,I];simp
    have D:=L k (by simp);unfold Es at D;rw[M]at D;rw[O,RA D,Qut bx k _ M];exact Q1i (rk:=rk) (ri:=ri) ks (pre++[k]) l (by rw[I];simp) (by rw[<-N];simp[dp]) (λj S=>L j (by simp[S]))
   ·simp at h
  ·simp at h
theorem SY (D:Aj P C) {d:Option Tmp} {f:FuncId} (G:C.ro f=true) {args:List TV} {bx bx1:List (Nat×Box)} {aC:List (Nat×Row)} {v:TV} (h:Au (C:=C) d (.callD f args) bx aC=some (v,bx1)):bx1=bx:=by
 simp only[Au]at h;generalize AV (cat AC.keys (cat TV.cellsOf args)) []=keys at h;cases I:C.spec f with
 |none=>rw[I]at h;simp at h
 |some g=>
  rw[I]at h;dsimp only at h;split at h
  ·rename_i M;simp only[ak]at M;split at h
   ·rename_i N L;split at h
    ·rename_i U O S;split at h
     ·simp only[an,cg]at h;have e:=D.2.1 f g I G _ _ _ _ S;simp only[Mem.mk.injEq,jh]at e;rw[<-h.2,e];exact Q1i keys [] N rfl (by simpa using L) (λk T=>Av.1 M.1.2 k T)
     ·simp at h
    ·simp at h
   ·simp at h
  ·simp at h
theorem Zo2 (X:Aj P C) {di Y:Option Tmp} {pi pj:Prim} {bx bx1 M:List (Nat×Box)} {aC:List (Nat×Row)} {vi vj:TV} (L:Au (C:=C) di pi bx aC=some (vi,bx1)) (D:Au (C:=C) Y pj bx1 aC=some (vj,M))
  (hm:Prim.meet C.ro (some pi) (some pj)=false) (hd:∀t,di=some t->Y≠some t) (a9:Prim.wf bx aC pj):
  ∃a8,Au (C:=C) Y pj bx aC=some (vj,a8)/\Au (C:=C) di pi a8 aC=some (vi,M):=by
 have b0:∀{a b:Nat},Nat.beq a b=false->a≠b:=λh e=>by subst e;simp at h
 cases pi<;>simp only[Au]at L<;>try (simp at L;done)
 case val v=>simp at L;obtain⟨rfl,rfl⟩:=L;exact⟨M,D,rfl⟩
 case newView e ks l=>simp at L;obtain⟨rfl,rfl⟩:=L;exact⟨M,D,rfl⟩
 case rload g sz id idx sub=>
  obtain⟨rfl,hc⟩:=OQ (C:=C) (d:=di) (by simpa only[Au]using L);exact⟨M,D,hc _ _⟩
 case callD f args=>
  obtain⟨U,rfl,a0,_,hc⟩:=US (C:=C) (d:=di) (f:=f) (args:=args) (aC:=aC) (by simpa only[Au]using L);have G:=hc di bx λ_ _=>rfl;have a3:∀k∈AV (cat AC.keys (cat TV.cellsOf args)) [],∃b,Ab bx k=some b:=Z7x (C:=C) (d:=di) (f:=f) (v:=vi) (aC:=aC) (by simpa only[Au]using G);cases pj<;>simp only[Au]at D<;>try (simp at D;done)
  case val v=>simp at D;obtain⟨rfl,rfl⟩:=D;exact⟨bx,rfl,G⟩
  case newView e ks l=>simp at D;obtain⟨rfl,rfl⟩:=D;exact⟨bx,rfl,G⟩
  case rload g sz id idx sub=>
   obtain⟨rfl,b1⟩:=OQ (C:=C) (d:=Y) (by simpa only[Au]using D);exact⟨bx,b1 _ _,G⟩
  case call f' a4=>
   obtain⟨rfl,b1⟩:=Jr (d:=Y) D;exact⟨bx,b1 _ _,G⟩
  case load g sz k' o'=>
   cases a5:C.ro f
   case true=>
    have e1:=SY X (d:=di) a5 (aC:=aC) G;rw[e1]at D G;have e2:M=bx:=by
     repeat' split at D
     all_goals first|(simp at D;done)|(simp at D;exact D.2.symm)
    subst e2;exact⟨M,by simp only[Au];exact D,G⟩
   have V:k'∉AV (cat AC.keys (cat TV.cellsOf args)) []:=λe=>by
    have:=ET.2 e;simp only[Prim.meet,a5,Bool.not_false,Bool.true_and]at hm;rw[hm]at this;cases this
   have N:∀p∈U,k'≠nth 0 (AV (cat AC.keys (cat TV.cellsOf args)) []) (p.1-base):=λp hp e=>V (by rw[e];exact a0 p hp);rw[L3 _ _ _ N]at D;refine⟨bx,?_,?_⟩
   ·simp only[Au]
    repeat' split at D
    all_goals first|(simp at D;done)|skip
    rename_i q1 _ _ q2;simp at D;obtain⟨rfl,_⟩:=D;simp only[q1,q2]
   ·have:M=Cr (AV (cat AC.keys (cat TV.cellsOf args)) []) U bx:=by
     repeat' split at D
     all_goals first|(simp at D;done)|(simp at D;exact D.2.symm)
    rw[this];exact G
  case store k' o' T=>
   have V:k'∉AV (cat AC.keys (cat TV.cellsOf args)) []:=λe=>by
    have:=ET.2 e;simp only[Prim.meet]at hm;rw[hm]at this;cases this
   have N:∀p∈U,k'≠nth 0 (AV (cat AC.keys (cat TV.cellsOf args)) []) (p.1-base):=λp hp e=>V (by rw[e];exact a0 p hp);rw[L3 _ _ _ N]at D;cases h2:Ab bx k' with
   |none=>rw[h2]at D;simp at D
   |some b'=>
    rw[h2]at D;dsimp only at D;split at D
    ·rename_i a1;simp at D;obtain⟨rfl,rfl⟩:=D;refine⟨upd bx k' ⟨b'.ty,splice b'.cells o' T⟩,by simp only[Au,h2,a1,dt],?_⟩;rw[hc di _ λk a2=>Dc _ _ _ _ (by rintro rfl;exact V a2),Qf3 _ _ _ _ N]
    ·simp at D
  case new ty T=>
   split at D
   ·rename_i d;split at D
    ·simp at D
    ·rename_i hn;simp at D;obtain⟨rfl,rfl⟩:=D;have N:∀p∈U,d≠nth 0 (AV (cat AC.keys (cat TV.cellsOf args)) []) (p.1-base):=λp hp e=>by
      have a7:∃b,Ab bx d=some b:=a3 d (by rw[e];exact a0 p hp);obtain⟨b,hb⟩:=a7;have:∃b',Ab (Cr (AV (cat AC.keys (cat TV.cellsOf args)) []) U bx) d=some b':=Rs _ _ hb;obtain⟨b',O⟩:=this;rw[hn]at O;cases O
     have a6:d∉AV (cat AC.keys (cat TV.cellsOf args)) []:=λe=>by
      obtain⟨b,hb⟩:=a3 d e;obtain⟨b',O⟩:=Rs (keys:=AV (cat AC.keys (cat TV.cellsOf args)) []) U bx hb;rw[hn]at O;cases O
     rw[L3 _ _ _ N]at hn;refine⟨ins bx d ⟨ty,T⟩,by simp only[Au,hn],?_⟩;rw[hc di _ λk a2=>Dk _ _ _ _ (by rintro rfl;exact a6 a2),Qbo _ _ _ _ N]
   ·simp at D
  case callD f' a4=>
   simp only[Prim.meet,Bool.not_eq_false',ak]at hm;have e1:=SY X (d:=di) hm.1 (aC:=aC) G;rw[e1]at D G;have e2:=SY X (d:=Y) hm.2 (aC:=aC) (f:=f') (args:=a4) (v:=vj) (bx1:=M) (by simpa only[Au]using D);subst e2;exact⟨M,by simpa only[Au]using D,G⟩
 case call f args=>
  obtain⟨rfl,hc⟩:=Jr (d:=di) L;exact⟨M,D,hc _ _⟩
 case load g sz key off=>
  cases I:Ab bx key with
  |none=>rw[I]at L;simp at L
  |some b=>
   rw[I]at L;dsimp only at L;cases h2:CN g sz b.cells off with
   |none=>rw[h2]at L;simp at L
   |some v=>
    rw[h2]at L;simp at L;obtain⟨rfl,rfl⟩:=L;refine⟨M,D,?_⟩;have hl:Ab M key=some b:=by
     cases pj<;>simp only[Au]at D<;>try (simp at D;done)
     case val=>simp at D;rw[<-D.2];exact I
     case newView=>simp at D;rw[<-D.2];exact I
     case rload=>
      obtain⟨rfl,_⟩:=OQ (C:=C) (d:=Y) (by simpa only[Au]using D);exact I
     case callD f args=>
      cases a5:C.ro f
      case true=>
       rw[SY X (d:=Y) a5 (aC:=aC) (args:=args) (v:=vj) (bx1:=M) (by simpa only[Au]using D)];exact I
      obtain⟨U,rfl,a0,_,_⟩:=US (C:=C) (d:=Y) (f:=f) (args:=args) (aC:=aC) (by simpa only[Au]using D);rw[L3 _ _ _ λp hp e=>by
       have:=ET.2 (a0 p hp);rw[<-e]at this;simp only[Prim.meet,a5,Bool.not_false,Bool.true_and]at hm;rw[hm]at this;cases this]
      exact I
     case call=>
      obtain⟨rfl,_⟩:=Jr (d:=Y) D;exact I
     case load=>
      repeat' split at D
      all_goals first|(simp at D;done)|(simp at D;rw[<-D.2];exact I)
     case store k' o' T=>
      split at D
      ·split at D
       ·simp at D;rw[<-D.2,Dc _ _ _ _ (b0 hm)];exact I
       ·simp at D
      ·simp at D
     case new ty cs=>
      split at D
      ·rename_i d;split at D
       ·simp at D
       ·rename_i hn;simp at D;rw[<-D.2,Dk _ _ _ _ (by rintro rfl;rw[hn]at I;simp at I)];exact I
      ·simp at D
    simp only[Au,hl,h2]
 case store key off cs=>
  cases I:Ab bx key with
  |none=>rw[I]at L;simp at L
  |some b=>
   rw[I]at L;dsimp only at L;split at L
   ·rename_i hle;simp at L;obtain⟨rfl,rfl⟩:=L;cases pj<;>simp only[Au]at D<;>try (simp at D;done)
    case val v=>simp at D;obtain⟨rfl,rfl⟩:=D;exact⟨bx,rfl,by simp only[Au,I,hle,dt]⟩
    case newView e ks l=>simp at D;obtain⟨rfl,rfl⟩:=D;exact⟨bx,rfl,by simp only[Au,I,hle,dt]⟩
    case rload g sz id idx sub=>
     obtain⟨rfl,hc⟩:=OQ (C:=C) (d:=Y) (by simpa only[Au]using D);exact⟨bx,hc _ _,by simp only[Au,I,hle,dt]⟩
    case callD f args=>
     obtain⟨U,rfl,a0,_,hc⟩:=US (C:=C) (d:=Y) (f:=f) (args:=args) (aC:=aC) (by simpa only[Au]using D);have V:key∉AV (cat AC.keys (cat TV.cellsOf args)) []:=λe=>by
      have:=ET.2 e;simp only[Prim.meet]at hm;rw[hm]at this;cases this
     have N:∀p∈U,key≠nth 0 (AV (cat AC.keys (cat TV.cellsOf args)) []) (p.1-base):=λp hp e=>V (by rw[e];exact a0 p hp);refine⟨_,hc Y bx λk a2=>(Dc _ _ _ _ (by rintro rfl;exact V a2)).symm,?_⟩;simp only[Au];rw[L3 _ _ _ N,I];simp only[hle,dt];rw[Qf3 _ _ _ _ N]
    case call f args=>
     obtain⟨rfl,hc⟩:=Jr (d:=Y) D;exact⟨bx,hc _ _,by simp only[Au,I,hle,dt]⟩
    case load g sz k' o'=>
     have V:=b0 hm;rw[Dc _ _ _ _ (λe=>V e.symm)]at D;refine⟨bx,?_,?_⟩
     ·simp only[Au]
      repeat' split at D
      all_goals first|(simp at D;done)|skip
      rename_i q1 _ _ q2;simp at D;obtain⟨rfl,_⟩:=D;simp only[q1,q2]
     ·have:M=upd bx key ⟨b.ty,splice b.cells off cs⟩:=by
       repeat' split at D
       all_goals first|(simp at D;done)|(simp at D;exact D.2.symm)
      subst this;simp only[Au,I,hle,dt]
    case store k' o' T=>
     have V:=b0 hm;rw[Dc _ _ _ _ (λe=>V e.symm)]at D;cases h2:Ab bx k' with
     |none=>rw[h2]at D;simp at D
     |some b'=>
      rw[h2]at D;dsimp only at D;split at D
      ·rename_i a1;simp at D;obtain⟨rfl,rfl⟩:=D;refine⟨upd bx k' ⟨b'.ty,splice b'.cells o' T⟩,by simp only[Au,h2,a1,dt],?_⟩;simp only[Au];rw[Dc _ _ _ _ V,I];simp only[hle,dt];rw[VT _ _ _ _ _ V]
      ·simp at D
    case new ty T=>
     split at D
     ·rename_i d;split at D
      ·simp at D
      ·rename_i hn;simp at D;obtain⟨rfl,rfl⟩:=D;have a6:d≠key:=by
        rintro rfl;rw[EB _ _ _ _ I]at hn;simp at hn
       rw[Dc _ _ _ _ a6]at hn;refine⟨ins bx d ⟨ty,T⟩,by simp only[Au,hn],?_⟩;simp only[Au];rw[Dk _ _ _ _ (λe=>a6 e.symm),I];simp only[hle,dt];rw[SP _ _ _ _ _ a6]
     ·simp at D
   ·simp at L
 case new ty cs=>
  cases b2:di with
  |none=>rw[b2]at L;simp at L
  |some d=>
   rw[b2]at L;dsimp only at L;cases I:Ab bx d with
   |some _=>rw[I]at L;simp at L
   |none=>
    rw[I]at L;simp at L;obtain⟨rfl,rfl⟩:=L;have S:∀bb,Ab bb d=none->Au (C:=C) (some d) (.new ty cs) bb aC=some (.c (.ptr d 0),ins bb d ⟨ty,cs⟩):=by
     intro bb hb;simp only[Au,hb]
    cases pj<;>simp only[Au]at D<;>try (simp at D;done)
    case val v=>simp at D;obtain⟨rfl,rfl⟩:=D;exact⟨bx,rfl,S bx I⟩
    case newView e ks l=>simp at D;obtain⟨rfl,rfl⟩:=D;exact⟨bx,rfl,S bx I⟩
    case rload g sz id idx sub=>
     obtain⟨rfl,hc⟩:=OQ (C:=C) (d:=Y) (by simpa only[Au]using D);exact⟨bx,hc _ _,S bx I⟩
    case callD f args=>
     obtain⟨U,rfl,a0,_,hc⟩:=US (C:=C) (d:=Y) (f:=f) (args:=args) (aC:=aC) (by simpa only[Au]using D);have V:d∉AV (cat AC.keys (cat TV.cellsOf args)) []:=λe=>by
      obtain⟨b,hb⟩:=Z28 a9 e;rw[I]at hb;cases hb
     have N:∀p∈U,d≠nth 0 (AV (cat AC.keys (cat TV.cellsOf args)) []) (p.1-base):=λp hp e=>V (by rw[e];exact a0 p hp);refine⟨_,hc Y bx λk a2=>(Dk _ _ _ _ (by rintro rfl;exact V a2)).symm,?_⟩;rw[S _ (by rw[L3 _ _ _ N];exact I),Qbo _ _ _ _ N]
    case call f args=>
     obtain⟨rfl,hc⟩:=Jr (d:=Y) D;exact⟨bx,hc _ _,S bx I⟩
    case load g sz k' o'=>
     obtain⟨b',O⟩:=a9;have V:k'≠d:=by rintro rfl;rw[I]at O;simp at O
     rw[Dk _ _ _ _ V]at D;refine⟨bx,?_,?_⟩
     ·simp only[Au]
      repeat' split at D
      all_goals first|(simp at D;done)|skip
      rename_i q1 _ _ q2;simp at D;obtain⟨rfl,_⟩:=D;simp only[q1,q2]
     ·have:M=ins bx d ⟨ty,cs⟩:=by
       repeat' split at D
       all_goals first|(simp at D;done)|(simp at D;exact D.2.symm)
      subst this;exact S bx I
    case store k' o' T=>
     obtain⟨⟨b',O⟩,_⟩:=a9;have V:k'≠d:=by rintro rfl;rw[I]at O;simp at O
     rw[Dk _ _ _ _ V,O]at D;dsimp only at D;split at D
     ·rename_i a1;simp at D;obtain⟨rfl,rfl⟩:=D;refine⟨upd bx k' ⟨b'.ty,splice b'.cells o' T⟩,by simp only[Au,O,a1,dt],?_⟩;rw[S _ (by rw[Dc _ _ _ _ (λe=>V e.symm)];exact I),SP _ _ _ _ _ (λe=>V e.symm)]
     ·simp at D
    case new b5 T=>
     cases b3:Y with
     |none=>rw[b3]at D;simp at D
     |some e=>
      rw[b3]at D;dsimp only at D;have b4:d≠e:=by rintro rfl;exact hd d b2 b3
      rw[Dk _ _ _ _ (λq=>b4 q.symm)]at D;cases h2:Ab bx e with
      |some _=>rw[h2]at D;simp at D
      |none=>
       rw[h2]at D;simp at D;obtain⟨rfl,rfl⟩:=D;refine⟨ins bx e ⟨b5,T⟩,by simp only[Au,h2],?_⟩;rw[S _ (by rw[Dk _ _ _ _ b4];exact I),Qaa _ _ _ _ _ b4]
end
open Go.RowKit
structure WFst (s : St) : Prop where
 t:∀v∈s.tmps,TV.wf s.aB s.aC v
 b:∀(k:Nat) (b:Box),Ab s.aB k=some b->∀a∈b.cells,AC.wf s.aB s.aC a
section
variable {P:Program} {C:Cfg} {w:World} {R:Type} {Z:Base}
theorem Z9j {d:Option Tmp} {f:FuncId} {args:List TV} {bx D:List (Nat×Box)} {aC:List (Nat×Row)} {v:TV} (h:Au (C:=C) d (.call f args) bx aC=some (v,D)):TV.wf D aC v:=by
 simp only[Au]at h;split at h
 ·split at h
  ·split at h
   ·split at h
    ·rename_i G;simp at h;obtain⟨rfl,_⟩:=h;simp only[ak]at G;exact Jn G.2
    ·simp at h
   ·simp at h
  ·simp at h
 ·simp at h
theorem Q5q {bx:List (Nat×Box)} {aC:List (Nat×Row)}:∀(ks:List Kd) (cs:List AC) (j:Nat),∀c∈Ey ks cs j,AC.wf bx aC c
 |[],_,_,c,D=>by simp[Ey]at D
 |k::ks,cs,j,c,D=>by
  simp only[Ey,ay]at D;rcases D with rfl|D
  ·cases k<;>try exact trivial
   generalize nth AC.vD cs j=b;cases b<;>exact trivial
  ·exact Q5q ks cs _ c D
theorem Q33 {α:Type}:∀(l:List (Nat×α)) (k:Nat) (x:α),Ab l k=none->Ab (upd l k x) k=none
 |[],_,_,_=>rfl
 |(j,c)::l,k,x,h=>by
  simp only[Ab]at h;cases hb:Nat.beq j k<;>rw[hb]at h
  ·simp only[upd,hb,aq,Ab];exact Q33 l k x h
  ·simp at h
theorem Qvi {keys:List Nat}:∀(m:List (Nat×Box)) (l:List (Nat×Box)) {n:Nat} {b:Box},Ab (Cr keys m l) n=some b->Ab l n=some b\/∃p∈m,p.2=b
 |[],_,_,_,h=> .inl h
 |(j,c)::m,l,n,b,h=>by
  simp only[Cr]at h;rcases Qvi m _ h with h|⟨p,G,e⟩
  ·by_cases e:n=nth 0 keys (j-base)
   ·subst e;cases D:Ab l (nth 0 keys (j-base))with
    |none=>rw[Q33 _ _ _ D]at h;cases h
    |some y=>
     rw[EB _ _ _ _ D]at h;simp at h;subst h;exact .inr ⟨(j,c),by simp,rfl⟩
   ·rw[Dc _ _ _ _ e]at h;exact .inl h
  ·exact .inr ⟨p,by simp[G],e⟩
theorem Qv2 {d:Option Tmp} {f:FuncId} {args:List TV} {bx I:List (Nat×Box)} {aC:List (Nat×Row)} {v:TV} (h:Au (C:=C) d (.callD f args) bx aC=some (v,I)):
  ∃D,I=Cr (AV (cat AC.keys (cat TV.cellsOf args)) []) D bx/\True/\v.plainB=true/\∀p∈D,Ak AC.calm p.2.cells=true:=by
 simp only[Au]at h;generalize AV (cat AC.keys (cat TV.cellsOf args)) []=keys at h⊢
 repeat' split at h
 all_goals first|(simp at h;done)|skip
 rename_i L D _ G;simp only[an,cg]at h;obtain⟨rfl,rfl⟩:=h;simp only[ak]at G;exact⟨D,rfl,trivial,G.2,Av.1 G.1.2⟩
theorem Ybg {ops:List Oper} {o:Oper} {tm:List TV} {bx T:List (Nat×Box)} {aC:List (Nat×Row)} {p:Option Prim} {v:TV} (N:WFst ⟨tm,bx,aC⟩) (h:Db P C ops o tm bx aC=some (p,v,T)):
  WFst ⟨tm,T,aC⟩/\TV.wf T aC v/\∀q,p=some q->Prim.wf bx aC q:=by
 unfold Db at h;split at h
 ·cases S:opK P C (AE tm) o.dst o.op some with
  |none=>rw[S]at h;simp at h
  |some q=>
   rw[S]at h;simp only[af]at h;have V:=Zq (pre:=false) (Qca (aB:=bx) (aC:=aC) (λx=>Qao N.t x) S);clear S;generalize q.dr false=q at h V⊢;cases D:Au (C:=C) o.dst q bx aC with
   |none=>rw[D]at h;simp at h
   |some z=>
    rw[D]at h;simp at h;obtain⟨rfl,rfl,rfl⟩:=h;have O:∀{U:List (Nat×Box)},(∀a,AC.wf bx aC a->AC.wf U aC a)->(∀(k:Nat) (b:Box),Ab U k=some b->∀a∈b.cells,AC.wf bx aC a)->WFst ⟨tm,U,aC⟩:=
     λI hb=>⟨λv X=>TV.wf_mono I (N.t v X),λk b G a D=>I a (hb k b G a D)⟩
    refine⟨?_,?_,λq' e=>by simp at e;subst e;exact V⟩;all_goals
     cases q<;>simp only[Au]at D<;>try (simp at D;done)
    ·simp at D;subst D;exact N
    ·repeat' split at D
     all_goals first|(simp at D;done)|(simp at D;subst D;exact N)
    ·rename_i key off cs;split at D
     ·rename_i b hb;split at D
      ·simp at D;subst D;refine O (λa => AC.wf_mono (λk bo M => by
        by_cases L:k=key
        ·subst L;exact⟨_,EB _ _ _ _ hb⟩
        ·exact⟨bo,by rw[Dc _ _ _ _ L];exact M⟩) (λk r G=>⟨r,G,rfl,rfl⟩)) ?_
       intro k bo G a I;by_cases L:k=key
       ·subst L;rw[EB _ _ _ _ hb]at G;simp at G;subst G;rcases U6 _ _ _ I with I|I
        ·exact N.b k b hb a I
        ·exact V.2 a I
       ·rw[Dc _ _ _ _ L]at G;exact N.b k bo G a I
      ·simp at D
     ·simp at D
    ·rename_i ty cs;split at D
     ·rename_i d hd;split at D
      ·simp at D
      ·rename_i hn;simp at D;subst D;refine O (λa=>AC.wf_mono (λk bo M=>⟨bo,by rw[Dk _ _ _ _ (by rintro rfl;rw[hn]at M;simp at M)];exact M⟩) (λk r G=>⟨r,G,rfl,rfl⟩)) ?_;intro k bo G a I;by_cases L:k=d
       ·subst L;rw[En _ _ _ hn]at G;simp at G;subst G;exact V a I
       ·rw[Dk _ _ _ _ L]at G;exact N.b k bo G a I
     ·simp at D
    ·rename_i g sz id idx sub;obtain⟨z1,z2⟩:=z;obtain⟨rfl,_⟩:=OQ (C:=C) (d:=o.dst) (by simpa only[Au]using D);exact N
    ·simp at D;subst D;exact N
    ·obtain⟨rfl,_⟩:=Jr (d:=o.dst) D;exact N
    ·rename_i f args;obtain⟨z1,z2⟩:=z;obtain⟨a0,rfl,a2,_,Y⟩:=Qv2 (C:=C) (d:=o.dst) (f:=f) (args:=args) (aC:=aC) (by simpa only[Au]using D);refine O (λa=>AC.wf_mono (λk bo M=>Rs _ _ M) (λk r G=>⟨r,G,rfl,rfl⟩)) ?_;intro k bo G a I;rcases Qvi _ _ G with G|⟨p,S,rfl⟩
     ·exact N.b k bo G a I
     ·exact Qzp (Y p S) a I
    ·simp at D;subst D;exact V
    ·split at D
     ·rename_i b hb;split at D
      ·rename_i v X;simp at D;subst D;exact Rn X (N.b _ b hb)
      ·simp at D
     ·simp at D
    ·repeat' split at D
     all_goals first|(simp at D;done)|(simp at D;subst D;trivial)
    ·rename_i ty cs;split at D
     ·rename_i d hd;split at D
      ·simp at D
      ·rename_i hn;simp at D;subst D;exact Cn ⟨_,En _ _ _ hn⟩
     ·simp at D
    ·split at D
     ·rename_i r hr;split at D
      ·rename_i v X;simp at D;subst D;exact Rn X λa I=>Q5q r.ks _ 0 a I
      ·simp at D
     ·simp at D
    ·simp at D;subst D;exact Cn trivial
    ·rename_i f args;exact Z9j (d:=o.dst) D
    ·rename_i f args;obtain⟨z1,z2⟩:=z;obtain⟨a0,_,_,a1,_⟩:=Qv2 (C:=C) (d:=o.dst) (f:=f) (args:=args) (aC:=aC) (by simpa only[Au]using D);exact Jn a1
 ·simp at h;obtain⟨rfl,rfl,rfl⟩:=h;exact⟨N,λp S=>by simp at S,λq e=>by simp at e⟩
 ·simp at h
theorem Qag {tm:List TV} {bx:List (Nat×Box)} {aC:List (Nat×Row)} {d:Option Tmp} {v:TV} (G:WFst ⟨tm,bx,aC⟩) (I:TV.wf bx aC v):WFst ⟨CK tm d v,bx,aC⟩:=by
 cases d with
 |none=>exact G
 |some t=>
  refine⟨λu D=> ?_,G.b⟩;simp only[CK,IB]at D;rcases fo D with D|rfl
  ·exact G.t u D
  ·exact I
theorem Zn1 {id:Nat} {bx:List (Nat×Box)} {k:Nat} {b:Box} (h:Ab (bx.map λp=>(p.1,p.2.kill id)) k=some b):∃b',Ab bx k=some b'/\b=b'.kill id:=by
 have:=Fd (Box.kill id) bx k;rw[this]at h;simp only[bh]at h;obtain⟨b',D,rfl⟩:=h;exact⟨b',D,rfl⟩
theorem WM {bx:List (Nat×Box)} {aC D:List (Nat×Row)} {id:Nat} (O:∀j,j≠id->Ab D j=Ab aC j) {a:AC} (h:AC.wf bx aC a):AC.wf (bx.map λp=>(p.1,p.2.kill id)) D (a.kill id):=by
 have hb:∀k b,Ab bx k=some b->∃b',Ab (bx.map λp=>(p.1,p.2.kill id)) k=some b':=λk b T=>⟨b.kill id,by have:=Fd (Box.kill id) bx k;rw[this,T];rfl⟩;have S:∀c,AC.wfP bx c->AC.wfP (bx.map λp=>(p.1,p.2.kill id)) c:=by
  intro c I;cases c<;>try exact trivial
  obtain⟨b,G⟩:=I;exact hb _ _ G
 cases a<;>try exact trivial
 case ptr k o=>
  obtain⟨b,G⟩:=h;exact hb _ _ G
 case bsl k o=>
  obtain⟨b,G⟩:=h;exact hb _ _ G
 case own j w n=>
  simp only[AC.kill];cases L:Nat.beq j id
  ·obtain⟨r,M,N⟩:=h;exact⟨r,by rw[O j (GR L)];exact M,N⟩
  ·exact trivial
 case rptr j a b=>
  simp only[AC.kill];cases L:Nat.beq j id
  ·obtain⟨r,M,N⟩:=h;exact⟨r,by rw[O j (GR L)];exact M,N⟩
  ·exact trivial
 case vptr cs sub=>exact h
 case clo f fs cs=>exact⟨λc I=>S c (h.1 c I),λc I=>S c (h.2 c I)⟩
theorem Z6n {dst:Option Tmp} {aC D:List (Nat×Row)} {p:Prim} {id:Nat} {v:TV} (I:KA dst p=some id) (G:KS dst aC p=some (v,D)):(∀j,j≠id->Ab D j=Ab aC j)/\TV.wf [] D v:=by
 cases p<;>simp[KA]at I
 rename_i e ks bytes M x;cases M<;>simp at I
 case nilSl=>
  subst I;simp only[KS,Qmh]at G
  repeat' split at G
  all_goals first|(simp at G;done)|skip
  rename_i N _ _;simp only[an,cg]at G;obtain⟨rfl,rfl⟩:=G;refine⟨λj L=>Dk _ _ _ _ L,Cn ?_⟩;exact⟨_,En _ _ _ N,rfl,rfl⟩
 rename_i id' w n;subst I;simp only[KS,Qd0]at G
 repeat' split at G
 all_goals first|(simp at G;done)|skip
 rename_i r O _ _;simp only[an,cg]at G;obtain⟨rfl,rfl⟩:=G;refine⟨λj L=>Dc _ _ _ _ L,Cn ?_⟩;exact⟨_,EB _ _ _ _ O,rfl,rfl⟩
theorem Q1t {aC rows':List (Nat×Row)}:∀{args:List TV},Ak TV.plainB args=true->E6 aC args=E6 rows' args
 |[],_=>rfl
 |a::l,h=>by
  simp only[Ak]at h;have G:a.plainB=true/\Ak TV.plainB l=true:=by cases L:a.plainB<;>rw[L]at h<;>simp at h;exact⟨rfl,h⟩
  have e:a.res aC=a.res rows':=by
   cases a with
   |vD=>rfl
   |tup ps=>rfl
   |v g cs=>
    simp only[TV.res];have:Eo aC cs=Eo rows' cs:=by
     have D:=G.1;simp only[TV.plainB]at D;clear h G;induction cs with
     |nil=>rfl
     |cons c cs M=>
      simp only[Ak]at D;have I:c.plain=true/\Ak AC.plain cs=true:=by cases N:c.plain<;>rw[N]at D<;>simp at D;exact⟨rfl,D⟩
      simp only[Eo];rw[M I.2];have:c.res aC=c.res rows':=by
       have:=I.1;cases c<;>simp[AC.plain]at this<;>rfl
      rw[this]
    rw[this]
  simp only[E6];rw[e,Q1t G.2]
theorem Z5j {dst:Option Tmp} {aC G:List (Nat×Row)} {p:Prim} {v:TV} (h:mkD (C:=C) dst p aC=some (v,G)):(∀j r,Ab aC j=some r->Ab G j=some r)/\TV.wf [] G v:=by
 unfold mkD at h;cases D:mkG (C:=C) dst p with
 |none=>rw[D]at h;simp at h
 |some q=>
  obtain⟨O,o⟩:=q;rw[D]at h;cases o with
  |none=>
   simp only[an,cg]at h;obtain⟨rfl,rfl⟩:=h;refine⟨λ_ _ h=>h,?_⟩;unfold mkG at D;split at D
   ·split at D<;>simp at D
   ·split at D
    ·split at D
     ·split at D
      ·split at D
       ·rename_i M;simp only[an,cg]at D;rw[<-D.1];exact Jn M
       ·simp at D
      ·split at D<;>simp at D
      ·simp at D
     ·simp at D
    ·simp at D
   ·simp at D
  |some N=>
   obtain⟨k,r⟩:=N;dsimp only at h;split at h
   ·simp at h
   ·rename_i I;simp only[an,cg]at h;obtain⟨rfl,rfl⟩:=h;refine⟨λj r' L=>by rw[Dk _ _ _ _ (by rintro rfl;rw[I]at L;cases L)];exact L,?_⟩;unfold mkG at D;split at D
    ·split at D
     ·simp only[an,cg]at D;obtain⟨rfl,rfl,rfl⟩:=D;exact Cn ⟨_,En _ _ _ I,rfl,rfl⟩
     ·simp at D
    ·split at D
     ·split at D
      ·split at D
       ·split at D<;>simp at D
       ·split at D
        ·simp only[an,cg]at D;obtain⟨rfl,rfl,rfl⟩:=D;exact Cn ⟨_,En _ _ _ I,rfl,rfl⟩
        ·simp at D
       ·simp at D
      ·simp at D
     ·simp at D
    ·simp at D
theorem Z92 {ops:List Oper} {o:Oper} {s X:St} {p:Option Prim} (N:WFst s) (h:B6 (P:=P) (C:=C) ops o s=some (p,X)):WFst X:=by
 obtain⟨tm,bx,aC⟩:=s;cases Y:Prim.isApp p
 ·cases O:Prim.isMk p
  case true=>
   obtain⟨_,q,v,D,_,rfl,T,rfl⟩:=Ui h O;obtain⟨S,U⟩:=Z5j T;have G:∀a,AC.wf bx aC a->AC.wf bx D a:=λa=>AC.wf_mono (λk b I=>⟨b,I⟩) (λk r I=>⟨r,S k r I,rfl,rfl⟩);exact Qag ⟨λu M=>TV.wf_mono G (N.t u M),λk b I a hm=>G a (N.b k b I a hm)⟩ (TV.wf_mono (λa G=>AC.wf_mono (aB:=[]) (aC:=D) (λk b I=>by simp[Ab]at I) (λk r I=>⟨r,I,rfl,rfl⟩) G) U)
  obtain⟨v,a0,L,rfl⟩:=M0 h Y O;obtain⟨h1,h2,_⟩:=Ybg N L;exact Qag h1 h2
 ·obtain⟨_,q,id,v,D,_,rfl,h3,T,rfl⟩:=Qih h Y;obtain⟨S,U⟩:=Z6n h3 T;refine Qag ⟨λu M=> ?_,λk b I a G=> ?_⟩ (TV.wf_mono (λa G=>AC.wf_mono (aB:=[]) (aC:=D) (λk b I=>by simp[Ab]at I) (λk r I=>⟨r,I,rfl,rfl⟩) G) U)
  ·simp only[av]at M;obtain⟨u,M,rfl⟩:=M;have:=N.t u M;cases u with
   |vD=>trivial
   |v g cs=>
    intro a G;simp only[av]at G;obtain⟨c,L,rfl⟩:=G;exact WM S (this c L)
   |tup ps=>
    intro p hp a G;simp only[av]at hp;obtain⟨q,hq,rfl⟩:=hp;simp only[av]at G;obtain⟨c,L,rfl⟩:=G;exact WM S (this q hq c L)
  ·obtain⟨b',V,rfl⟩:=Zn1 I;simp only[Box.kill,av]at G;obtain⟨c,L,rfl⟩:=G;exact WM S (N.b k b' V c L)
theorem Zb8 {o:Op} {p:Option Prim} (h:Prim.still o p=true):Prim.isMk p=false:=by
 cases p with
 |none=>rfl
 |some q=>cases q<;>first|rfl|(cases o<;>simp[Prim.still,Prim.isLive,Prim.isPtr,Prim.isCallP,Prim.isLoad,Prim.isView]at h)
theorem Yb0 {d:Option Tmp} {p:Prim} {bx G:List (Nat×Box)} {aC:List (Nat×Row)} {v:TV} (I:Prim.mkStill (some p)=true) (h:Au (C:=C) d p bx aC=some (v,G)):
  G=bx/\∀D,Au (C:=C) d p bx D=some (v,bx):=by
 cases p<;>simp[Prim.mkStill]at I
 case val u=>simp only[Au,an,cg]at h⊢;obtain⟨rfl,rfl⟩:=h;exact⟨rfl,λ_=>by simp⟩
 case newView e ks l=>simp only[Au,an,cg]at h⊢;obtain⟨rfl,rfl⟩:=h;exact⟨rfl,λ_=>by simp⟩
 case load g sz key off=>
  simp only[Au]at h⊢
  repeat' split at h
  all_goals first|(simp at h;done)|skip
  simp at h;obtain⟨rfl,rfl⟩:=h;exact⟨rfl,λ_=>rfl⟩
 case call f args=>
  obtain⟨rfl,_⟩:=Jr h;refine⟨rfl,λD=> ?_⟩;simp only[Au]at h⊢;rw[Q1t (aC:=D) (rows':=aC) I];exact h
 case newRow e ks l=>simp[Au]at h
 case callF f args=>simp[Au]at h
theorem Q7a {ops:List Oper} {o:Oper} {tm:List TV} {bx G:List (Nat×Box)} {aC:List (Nat×Row)} {p:Option Prim} {v:TV} (M:Prim.mkStill p=true) (h:Db P C ops o tm bx aC=some (p,v,G)):
  G=bx/\∀D,Db P C ops o tm bx D=some (p,v,bx):=by
 unfold Db at h⊢;split at h
 ·cases L:opK P C (AE tm) o.dst o.op some with
  |none=>rw[L]at h;simp at h
  |some q=>
   rw[L]at h;simp only[af]at h⊢;cases I:Au (C:=C) o.dst (q.dr false) bx aC with
   |none=>rw[I]at h;simp at h
   |some z=>
    rw[I]at h;simp at h;obtain⟨rfl,rfl,rfl⟩:=h;obtain⟨e1,e2⟩:=Yb0 M I;refine⟨e1,λD=> ?_⟩;rw[e2 D];rfl
 ·simp at h;obtain⟨rfl,rfl,rfl⟩:=h;exact⟨rfl,λ_=>rfl⟩
 ·simp at h
theorem Z1f {U V:Option Tmp} {X Y:Prim} {aC I D:List (Nat×Row)} {vi vj:TV} (M:mkD (C:=C) U X aC=some (vi,I)) (L:mkD (C:=C) V Y I=some (vj,D)):
  ∃G,mkD (C:=C) V Y aC=some (vj,G)/\mkD (C:=C) U X G=some (vi,D):=by
 unfold mkD at*;cases S:mkG (C:=C) U X with
 |none=>rw[S]at M;simp at M
 |some qi=>
  obtain⟨v1,o1⟩:=qi;rw[S]at M;cases T:mkG (C:=C) V Y with
  |none=>rw[T]at L;simp at L
  |some qj=>
   obtain⟨v2,o2⟩:=qj;rw[T]at L;cases o1 with
   |none=>
    simp only[an,cg]at M;obtain⟨rfl,rfl⟩:=M;exact⟨D,L,rfl⟩
   |some k1=>
    obtain⟨k,r⟩:=k1;dsimp only at M;split at M
    ·simp at M
    rename_i hn;simp only[an,cg]at M;obtain⟨rfl,rfl⟩:=M;cases o2 with
    |none=>
     simp only[an,cg]at L;obtain⟨rfl,rfl⟩:=L;refine⟨aC,rfl,?_⟩;dsimp only;rw[hn]
    |some k2=>
     obtain⟨k',r'⟩:=k2;dsimp only at L;split at L
     ·simp at L
     rename_i N;simp only[an,cg]at L;obtain⟨rfl,rfl⟩:=L;have O:k'≠k:=by
      rintro rfl;rw[En _ _ _ hn]at N;cases N
     rw[Dk _ _ _ _ O]at N;refine⟨ins aC k' r',by dsimp only;rw[N],?_⟩;dsimp only;rw[Dk _ _ _ _ (λe=>O e.symm),hn];dsimp only;rw[Qaa _ _ _ _ _ O]
theorem Z44 (b1:Aj P C) {ops:Array Oper} {x y:Oper} {s s1 s2:St} {px py:Option Prim} (hw:WFst s) (hy:B6 (P:=P) (C:=C) ops.toList y s=some (py,s1)) (hx:B6 (P:=P) (C:=C) ops.toList x s1=some (px,s2))
  (c0:Oper.apart ops y x=true) (hm:Prim.meet C.ro py px=false) (I:Iu y py x px=true):∃b5,B6 (P:=P) (C:=C) ops.toList x s=some (px,b5)/\B6 (P:=P) (C:=C) ops.toList y b5=some (py,s2):=by
 obtain⟨a1,a2,a3⟩:=Oper.apart_spec c0;obtain⟨tm,bx,aC⟩:=s;have M:∀(o:Oper) (tm:List TV),o.guard.isNone=true->BQ ops.toList o tm=some true:=by
  intro o tm h;unfold BQ;rw[Option.isNone_iff_eq_none.1 h]
 have N:∀(o:Oper) (tm:List TV) (d:Option Tmp) (v:TV),(∀t,d=some t->t∉o.looksAt ops)->opK P C (AE (CK tm d v)) o.dst o.op some=opK P C (AE tm) o.dst o.op some:=by
  intro o tm d v h;cases d with
  |none=>rfl
  |some t=>
   exact IZ (λx hx => Qxi (by
    rintro rfl;exact h t rfl (List.mem_append_left _ (List.mem_filterMap.2 ⟨.tmp t,by simpa using hx,rfl⟩)))) some
 cases X:Prim.isApp py
 case true=>
  unfold Iu at I;rw[X]at I;simp only[ah,ak]at I;obtain⟨⟨⟨o1,o2⟩,o3⟩,o4⟩:=I;have Y:Prim.isApp px=false:=by simpa using o1
  obtain⟨_,q,id,vy,a6,hq,rfl,h3,h4,rfl⟩:=Qih hy X;obtain⟨vx,a7,D,rfl⟩:=M0 hx Y (Zb8 o4);unfold Db at D;rw[M x _ o3]at D;dsimp only at D;rw[N x _ _ _ (λt L=>a1 t L)]at D;cases a0:opK P C (AE (tm.map (TV.kill id))) x.dst x.op some with
  |none=>rw[a0]at D;simp at D
  |some qx=>
   rw[a0]at D;simp only[af]at D;cases S:Au (C:=C) x.dst (qx.dr false) (bx.map λp=>(p.1,p.2.kill id)) a6 with
   |none=>rw[S]at D;simp at D
   |some zx=>
    rw[S]at D;simp at D;obtain⟨rfl,rfl,rfl⟩:=D;obtain⟨vx,a7⟩:=zx;obtain⟨rfl,u,rfl,b2⟩:=(Q3s (bx:=bx) o4).2 S;have b6:=(Qw5 (P:=P) (C:=C) (id:=id) (tm:=tm) (dst:=x.dst) o4).1 a0;refine⟨⟨CK tm x.dst u,bx,aC⟩,OP (by unfold Db;rw[M x _ o3];dsimp only;rw[b6];simp only[af];rw[b2 aC];rfl),?_⟩;rw[Q2v (M y _ o2) (by rw[N y _ _ _ (λt L=>a3 t L)];exact hq) h3 h4 X,Qz3];dsimp only;rw[OC vy _ a2]
 case false=>
 cases Y:Prim.isApp px
 case true=>
  unfold Iu at I;rw[X,Y]at I;simp only[ah,aq,ak]at I;obtain⟨⟨o2,o3⟩,o4⟩:=I;obtain⟨vy,b3,G,rfl⟩:=M0 hy X (Zb8 o4);obtain⟨_,q,id,vx,a6,hq,rfl,h3,h4,rfl⟩:=Qih hx Y;rw[N x _ _ _ (λt L=>a1 t L)]at hq;unfold Db at G;rw[M y _ o2]at G;dsimp only at G;cases a5:opK P C (AE tm) y.dst y.op some with
  |none=>rw[a5]at G;simp at G
  |some qy=>
   rw[a5]at G;simp only[af]at G;cases T:Au (C:=C) y.dst (qy.dr false) bx aC with
   |none=>rw[T]at G;simp at G
   |some zy=>
    rw[T]at G;simp at G;obtain⟨rfl,rfl,rfl⟩:=G;obtain⟨vy,b3⟩:=zy;obtain⟨rfl,b2⟩:=(Q3s (id:=id) (bx:=bx) o4).1 T;have b7:=(Qw5 (P:=P) (C:=C) (id:=id) (tm:=tm) (dst:=y.dst) o4).2 a5;refine⟨_,Q2v (M x _ o3) hq h3 h4 Y,?_⟩;rw[OP (p:=some (qy.dr false)) (v:=vy.kill id) (by unfold Db;rw[M y _ o2];dsimp only;rw[N y _ _ _ (λt L=>a3 t L),b7];simp only[af];rw[b2];rfl)];dsimp only;rw[Qz3,OC vx _ (λt L e=>a2 t e L)]
 case false=>
   unfold Iu at I;rw[X,Y]at I;simp only[aq]at I;cases U:Prim.isMk py
   case true=>
    rw[U]at I;simp only[ah]at I;obtain⟨b0,qy,vy,c1,b8,rfl,T,rfl⟩:=Ui hy U;cases O:Prim.isMk px
    case true=>
     obtain⟨a4,qx,vx,a8,a9,rfl,S,rfl⟩:=Ui hx O;rw[QH (λt L=>a1 t L)]at a4;rw[N x _ _ _ (λt L=>a1 t L)]at a9;obtain⟨b9,m1,m2⟩:=Z1f T S;refine⟨_,TR a4 a9 m1 O,?_⟩;rw[TR (by rw[QH (λt L=>a3 t L)];exact b0) (by rw[N y _ _ _ (λt L=>a3 t L)];exact b8) m2 U,OC vy vx a2]
    case false=>
     obtain⟨vx,a7,D,rfl⟩:=M0 hx Y O;rw[TY (λt L=>a1 t L)]at D;obtain⟨rfl,b4⟩:=Q7a I D;refine⟨_,OP (b4 aC),?_⟩;rw[TR (by rw[QH (λt L=>a3 t L)];exact b0) (by rw[N y _ _ _ (λt L=>a3 t L)];exact b8) T U,OC vy vx a2]
   case false=>
   rw[U]at I;simp only[aq]at I;cases O:Prim.isMk px
   case true=>
    rw[O]at I;simp only[ah]at I;obtain⟨vy,b3,G,rfl⟩:=M0 hy X U;obtain⟨rfl,b4⟩:=Q7a I G;obtain⟨a4,qx,vx,a8,a9,rfl,S,rfl⟩:=Ui hx O;rw[QH (λt L=>a1 t L)]at a4;rw[N x _ _ _ (λt L=>a1 t L)]at a9;refine⟨_,TR a4 a9 S O,?_⟩;rw[OP (by rw[TY (λt L=>a3 t L)];exact b4 a8),OC vy vx a2]
   case false=>
   obtain⟨vy,b3,G,rfl⟩:=M0 hy X U;obtain⟨vx,a7,D,rfl⟩:=M0 hx Y O;rw[TY (λt L=>a1 t L)]at D;have key:∃V,Db P C ops.toList x tm bx aC=some (px,vx,V)/\Db P C ops.toList y tm V aC=some (py,vy,a7):=by
    unfold Db at G D⊢;split at G
    ·rename_i b0;cases a5:opK P C (AE tm) y.dst y.op some with
     |none=>rw[a5]at G;simp at G
     |some qy=>
      rw[a5]at G;simp only[af]at G;cases T:Au (C:=C) y.dst (qy.dr false) bx aC with
      |none=>rw[T]at G;simp at G
      |some zy=>
       rw[T]at G;simp at G;obtain⟨rfl,rfl,rfl⟩:=G;split at D
       ·rename_i a4;cases a0:opK P C (AE tm) x.dst x.op some with
        |none=>rw[a0]at D;simp at D
        |some qx=>
         rw[a0]at D;simp only[af]at D;cases S:Au (C:=C) x.dst (qx.dr false) zy.2 aC with
         |none=>rw[S]at D;simp at D
         |some zx=>
          rw[S]at D;simp at D;obtain⟨rfl,rfl,rfl⟩:=D;obtain⟨V,m1,m2⟩:=Zo2 b1 T S hm a2 (Zq (Qca (λx=>Qao hw.t x) a0));exact⟨V,by simp[m1],by simp[m2]⟩
       ·rename_i a4;simp at D;obtain⟨rfl,rfl,rfl⟩:=D;exact⟨bx,rfl,by simp[T]⟩
       ·simp at D
    ·rename_i b0;simp at G;obtain⟨rfl,rfl,rfl⟩:=G;exact⟨a7,D,rfl⟩
    ·simp at G
   obtain⟨V,k1,k2⟩:=key;refine⟨⟨CK tm x.dst vx,V,aC⟩,OP k1,?_⟩;rw[OP (by rw[TY (λt L=>a3 t L)];exact k2),OC vy vx a2]
theorem Qtw (D:Aj P C) {ops:Array Oper} {m:List Nat} {x:Nat×Oper×Option Prim} {post:List (Nat×Oper×Option Prim)} {O:St}:∀(pre:List (Nat×Oper×Option Prim)) (s:St),WFst s->RM P C ops.toList m (pre++x::post) s O->
  (∀y∈pre,Dd ops.toList m x.1=false/\Dd ops.toList m y.1=false/\Oper.apart ops y.2.1 x.2.1=true/\Prim.meet C.ro y.2.2 x.2.2=false/\Iu y.2.1 y.2.2 x.2.1 x.2.2=true)->
  ∃s1,Ii P C ops.toList m x.1 x.2.1 s=some (x.2.2,s1)/\RM P C ops.toList m (pre++post) s1 O
 |[],s,L,h,_=>by
  obtain⟨i,o,p⟩:=x;exact h
 |(j,U,V)::pre,s,L,h,S=>by
  obtain⟨X,G,Y⟩:=h;obtain⟨T,I,q1,q2,q3⟩:=S (j,U,V) (by simp);have a0:=G;unfold Ii at G;rw[ab (by dsimp only at I;rw[I];simp)]at G;obtain⟨s2,M,h4⟩:=Qtw D pre X (Z92 L G) Y λy N=>S y (by simp[N]);unfold Ii at M;rw[ab (by rw[T];simp)]at M;obtain⟨s1,h5,h6⟩:=Z44 D L G M q1 q2 q3;refine⟨s1,by unfold Ii;rw[ab (by rw[T];simp)];exact h5,s2,?_,h4⟩;unfold Ii;rw[ab (by dsimp only at I;rw[I];simp)];exact h6
inductive Before (ops : List Oper) : Nat -> Nat -> Prop where
 |one {i:Nat} {o:Oper} {e:Edge} (h:ops[i]? =some o) (he:e∈o.after.toList) (hb:Region.binds .any e=true):Before ops i e.on
 |more {i j:Nat} {o:Oper} {e:Edge} (h:ops[i]? =some o) (he:e∈o.after.toList) (hb:Region.binds .any e=true) (h':Before ops e.on j):Before ops i j
theorem Qku {m:List Nat} {j:Nat}:∀(l:List Edge) (acc:Nat),Nat.testBit (SH m l acc) j=true->Nat.testBit acc j=true\/∃e∈l,Region.binds .any e=true/\(e.on=j\/Nat.testBit (nth 0 m e.on) j=true)
 |[],acc,h=> .inl h
 |e::l,acc,h=>by
  simp only[SH]at h;cases hb:Region.binds .any e<;>rw[hb]at h
  ·rcases Qku l _ h with h|⟨D,he,h'⟩
   ·exact .inl h
   ·exact .inr ⟨D,by simp[he],h'⟩
  ·rcases Qku l _ h with h|⟨D,he,h'⟩
   ·simp only[ah]at h;have:Nat.testBit (acc|||(2^e.on|||nth 0 m e.on)) j=true:=h;rw[Nat.testBit_or,Nat.testBit_or]at this;rw[jt,jt]at this;rcases this with h|h|h
    ·exact .inl h
    ·refine .inr ⟨e,by simp,hb, .inl ?_⟩;rw[Nat.testBit_two_pow]at h;simpa using h
    ·exact .inr ⟨e,by simp,hb, .inr h⟩
   ·exact .inr ⟨D,by simp[he],h'⟩
theorem Zro {α:Type} (n:Nat) (K:Nat->α):Q9l n K=K n:=by cases n<;>rfl
theorem Qxn {α:Type} (d:α):∀(l D:List α) (i:Nat),i<l.length->nth d (l++D) i=nth d l i
 |x::l,D,0,_=>rfl
 |x::l,D,i+1,h=>Qxn d l D i (by simpa using h)
theorem Qum {α:Type} (d x:α):∀(l:List α),nth d (l++[x]) l.length=x
 |[]=>rfl
 |y::l=>Qum d x l
theorem Qmd {α:Type} (d:α):∀(l:List α) (i:Nat),l.length<=i->nth d l i=d
 |[],_,_=>rfl
 |x::l,0,h=>by simp at h
 |x::l,i+1,h=>Qmd d l i (by simpa using h)
theorem Q1u {ops:List Oper} {K:List Nat->Option R} {r:R}:∀(l pre:List Oper) (m:List Nat),ops=pre++l->m.length=pre.length->(∀i j,i<m.length->Nat.testBit (nth 0 m i) j=true->Before ops i j)->Ts l m K=some r->
  ∃V,K V=some r/\∀i j,LS V i j=true->Before ops i j
 |[],pre,m,he,O,N,h=>⟨m,h,λi j D=>by
   by_cases S:i<m.length
   ·exact N i j S D
   ·unfold LS at D;rw[Qmd 0 m i (by omega)]at D;simp at D⟩
 |o::l,pre,m,he,O,N,h=>by
  simp only[Ts,Zro,AY]at h;refine Q1u l (pre++[o]) _ (by simp[he]) (by simp[O]) (λi j S D=> ?_) h;by_cases I:i<m.length
  ·rw[Qxn 0 m _ i I]at D;exact N i j I D
  ·have T:i=m.length:=by simp at S;omega
   subst T;rw[Qum]at D;have L:ops[m.length]? =some o:=by rw[he,O];simp
   rcases Qku _ _ D with G|⟨e,M,hb,G⟩
   ·simp at G
   ·rcases G with G|G
    ·rw[<-G];exact .one L M hb
    ·by_cases U:e.on<m.length
     ·exact .more L M hb (N _ _ U G)
     ·rw[Qmd 0 m _ (by omega)]at G;simp at G
end
open Go.RowKit
section
variable {P:Program} {C:Cfg} {w:World} {R:Type} {Z:Base}
theorem Z0o (N:Aj P C) {ops:List Oper} {o:Oper} {s O:St} {p:Option Prim} (h:B6 (P:=P) (C:=C) ops o s=some (p,O)) (hs:Prim.simple p=true) (K:Option Prim->St->Option R):
  E3 P C false ops o s K=K p O:=by
 have L:∀s1:St,s1=s->BQ ops o s.tmps=some true->(opK P C (AE s1.tmps) o.dst o.op λp=>A2 C o.dst (p.dr false) s1 λv O=>put O o.dst v (K (some (p.dr false))))=K p O:=by
  rintro s1 rfl M;unfold B6 at h;rw[M]at h;dsimp only at h;rw[QG];cases hp:opK P C (AE s1.tmps) o.dst o.op some with
  |none=>rw[hp]at h;simp at h
  |some q=>
   rw[hp]at h;simp only[af]at h;cases X:EN (C:=C) o.dst (q.dr false) s1 with
   |none=>rw[X]at h;simp at h
   |some z=>
    rw[X]at h;simp at h;obtain⟨rfl,rfl⟩:=h;simp only[af];rw[Q65 N hs,X];simp only[af,L5]
 have I:∀s1:St,s1=s->BQ ops o s.tmps=some false->put s1 o.dst (.tup []) (K none)=K p O:=by
  rintro s1 rfl M;unfold B6 at h;rw[M]at h;simp at h;obtain⟨rfl,rfl⟩:=h;rw[L5]
 unfold E3 PP;cases S:o.guard with
 |none=>exact L s rfl (by simp[BQ,S])
 |some jw=>
  obtain⟨j,want⟩:=jw;dsimp only;cases T:ops[j]? with
  |none=>unfold B6 BQ at h;rw[S]at h;dsimp only at h;rw[T]at h;simp at h
  |some oj=>
   dsimp only;cases V:oj.dst with
   |none=>unfold B6 BQ at h;rw[S]at h;dsimp only at h;rw[T]at h;dsimp only at h;rw[V]at h;simp at h
   |some t=>
    dsimp only;split
    ·rename_i g G;have M:BQ ops o s.tmps=some (g==want):=by simp only[BQ,S,T,V,G]
     have D:∀b,g=b->(⟨setL s.tmps t (.c (.bool b)),s.aB,s.aC⟩:St)=s:=by
      rintro b rfl;rw[Q68 G (by simp)]
     cases g
     ·simp only[aq];rw[Fe];dsimp only;cases want
      ·exact L _ (D false rfl) (by rw[M];rfl)
      ·exact I _ (D false rfl) (by rw[M];rfl)
     ·simp only[ah];rw[Fe];dsimp only;cases want
      ·exact I _ (D true rfl) (by rw[M];rfl)
      ·exact L _ (D true rfl) (by rw[M];rfl)
    ·rename_i G;exact I _ rfl (by simp only[BQ,S,T,V,G])
    ·rename_i Y U;have M:BQ ops o s.tmps=none:=by
      unfold BQ;rw[S];dsimp only;rw[T];dsimp only;rw[V];dsimp only;split
      ·rename_i g G;exact(Y g G).elim
      ·rename_i G;exact(U G).elim
      ·rfl
     unfold B6 at h;rw[M]at h;simp at h
theorem Rel.wf {s:St} {tmps:Array Value} (h:Rel Z s tmps w):WFst s:=by
 obtain⟨ρ,h⟩:=h;exact⟨h.wt,h.wb⟩
structure Left (P : Program) (C : Cfg) (ops : Array Oper) (m : List Nat) (listed : Array Bool) (rem : List (Nat × Oper × Option Prim)) : Prop where
 sz:listed.size=ops.size
 op:∀x∈rem,ops[x.1]? =some x.2.1/\(Dd ops.toList m x.1||Prim.simple x.2.2)=true/\∀e∈x.2.1.after,Region.binds .any e=true->e.on<x.1
 out:∀i,i<ops.size->(listed.getD i true=false↔∃x∈rem,x.1=i)
 ord:(rem.map (·.1)).Pairwise (· < ·)
 cl:∀j o,ops[j]? =some o->listed.getD j false=true->∀e∈o.after,Region.binds .any e=true->listed.getD e.on false=true
 pr:∀pre x post,rem=pre++x::post->∀y∈pre,Before ops.toList x.1 y.1\/(Dd ops.toList m x.1=false/\Dd ops.toList m y.1=false/\Oper.apart ops y.2.1 x.2.1=true/\Prim.meet C.ro y.2.2 x.2.2=false/\Iu y.2.1 y.2.2 x.2.1 x.2.2=true)
theorem Q5g (M:Aj P C) (b0:∀t∈C.eqOk,P.stoodInHeld t=false) {ops:Array Oper} {m:List Nat} {Q:Exit->Act->World->Prop} {sf:St} {d0:List Deferred}
  (hq:∀(a:Act) (w:World),Rel Z sf a.tmps w->a.defers=d0->Q .normal a w):
  ∀(fuel:Nat) (listed:Array Bool) (rem:List (Nat×Oper×Option Prim)) (s:St) (a:Act) (w:World),rem.length=fuel->Left P C ops m listed rem->RM P C ops.toList m rem s sf->WFst s->Rel Z s a.tmps w->a.defers=d0->
  wpAny P .any ops Q fuel listed a w
 |0,listed,rem,s,a,w,hl,L,O,b1,hR,hd=>by
  have hr:rem=[]:=fe hl;subst hr;have:s=sf:=O;subst this;refine⟨?_,hq a w hR hd⟩;apply List.eq_nil_iff_forall_not_mem.2;intro i hi;obtain⟨h1,o,X,_⟩:=mem_ready.1 hi;obtain⟨x,hx,_⟩:=(L.out i (bt.1 X).1).1 h1;simp at hx
 |fuel+1,listed,rem,s,a,w,hl,L,O,b1,hR,hd=>by
  refine⟨λb2=> ?_,λi hi=> ?_⟩
  ·exfalso;cases rem with
   |nil=>simp at hl
   |cons x rem=>
    obtain⟨h1,_,X⟩:=L.op x (by simp);have Y:x.1<ops.size:=(bt.1 h1).1;have:x.1∈Region.ready .any ops listed:=by
     refine mem_ready.2 ⟨(L.out x.1 Y).2 ⟨x,by simp,rfl⟩,x.2.1,h1,λe he hb=> ?_⟩;have d2:=X e he hb;cases hle:listed.getD e.on false with
     |true=>rfl
     |false=>
      have a3:e.on<listed.size:=by rw[L.sz];omega
      have:listed.getD e.on true=false:=by
       rw[Array.getD,jl a3]at hle⊢;exact hle
      obtain⟨y,G,d3⟩:=(L.out e.on (by omega)).1 this;have I:=L.ord;simp only[bc,jz]at I;simp only[ay]at G;rcases G with rfl|G
      ·omega
      ·have:=I.1 y.1 (List.mem_map_of_mem G);omega
    rw[b2]at this;simp at this
  ·obtain⟨h1,o,X,h3⟩:=mem_ready.1 hi;have a1:i<ops.size:=(bt.1 X).1;obtain⟨x,hx,c1⟩:=(L.out i a1).1 h1;subst c1;obtain⟨b3,b4,d4⟩:=L.op x hx;have c2:o=x.2.1:=by rw[X]at b3;simpa using b3
   subst c2;obtain⟨pre,post,D⟩:=List.append_of_mem hx;have b5:∀y∈rem,listed.getD y.1 false=false:=by
    intro y G;have Y:y.1<ops.size:=(bt.1 (L.op y G).1).1;have:=(L.out y.1 Y).2 ⟨y,G,rfl⟩;have a3:y.1<listed.size:=by rw[L.sz];exact Y
    rw[Array.getD,jl a3]at this⊢;exact this
   have a4:∀y∈pre,Dd ops.toList m x.1=false/\Dd ops.toList m y.1=false/\Oper.apart ops y.2.1 x.2.1=true/\Prim.meet C.ro y.2.2 x.2.2=false/\Iu y.2.1 y.2.2 x.2.1 x.2.2=true:=by
    intro y G;rcases L.pr pre x post D y G with hr|hr
    ·exfalso;have b6:=b5 y (by rw[D];simp[G]);have b7:∀(i j:Nat),Before ops.toList i j->(∀oi,ops[i]? =some oi->∀e∈oi.after,Region.binds .any e=true->listed.getD e.on false=true)->listed.getD j false=true:=by
      intro i j c3;induction c3 with
      |one ho he hb=>intro a5;exact a5 _ (by simpa using ho) _ (by simpa using he) hb
      |more ho he hb _ ih=>
       intro a5;have c4:=a5 _ (by simpa using ho) _ (by simpa using he) hb;exact ih λoe c5 e2 c6 c7=>L.cl _ oe c5 c4 e2 c6 c7
     have:=b7 x.1 y.1 hr λoi a6 e he hb=>by
      rw[X]at a6;simp at a6;subst a6;exact h3 e he hb
     rw[this]at b6;simp at b6
    ·exact hr
   rw[D]at O;obtain⟨s1,T,a7⟩:=Qtw M pre s b1 O a4;have hex:∃b,E3 P C b ops.toList x.2.1 s (λpo s'=>(some (po,s'):Option (Option Prim×St)))=some (x.2.2,s1):=by
    unfold Ii at T;cases hw:Dd ops.toList m x.1
    ·rw[ab (by rw[hw];simp)]at T;rw[hw]at b4;exact⟨false,Z0o M T (by simpa using b4) _⟩
    ·rw[aa hw]at T;exact⟨true,T⟩
   obtain⟨b,hex⟩:=hex;have a0 := XT (Q := Q) (next := wpAny P .any ops Q fuel (listed.setIfInBounds x.1 true)) M b0 hR hex (λpo s' a' w' hK b8 c8 => by
    simp at hK;obtain⟨rfl,rfl⟩:=hK;refine Q5g M b0 hq fuel _ (pre++post) _ a' w' ?_ ?_ a7 b8.wf b8 (c8.trans hd)
    ·rw[D]at hl;simp at hl⊢;omega
    ·have a2:∀y,y∈pre++post->y∈rem:=by
      intro y G;rw[D];simp at G⊢;rcases G with G|G<;>simp[G]
     have c9:∀y∈pre++post,y.1≠x.1:=by
      intro y G;have I:=L.ord;rw[D]at I;simp only[bz,bc,jn,jz]at I;obtain⟨o1,⟨o2,o3⟩,o4⟩:=I;simp at G;rcases G with G|G
      ·have:=o4 y.1 (List.mem_map_of_mem G) x.1 (by simp);omega
      ·have:=o2 y.1 (List.mem_map_of_mem G);omega
     have hg:∀(j:Nat) (d:Bool),(listed.setIfInBounds x.1 true).getD j d=if j=x.1 then true else listed.getD j d:=by
      intro j d;by_cases U:j=x.1
      ·subst U;have:x.1<listed.size:=by rw[L.sz];exact a1
       simp[Array.getD,this]
      ·rw[ab U];exact getD_set_ne d (λe=>U e.symm)
     refine⟨by simpa using L.sz,λy G=>L.op y (a2 y G),λj U=> ?_,?_,?_,?_⟩
     ·rw[hg];constructor
      ·intro hh;split at hh
       ·simp at hh
       ·rename_i a8;obtain⟨y,G,b9⟩:=(L.out j U).1 hh;refine⟨y,?_,b9⟩;rw[D]at G;simp at G⊢;rcases G with G|rfl|G
        ·exact .inl G
        ·exact absurd b9.symm a8
        ·exact .inr G
      ·rintro⟨y,G,rfl⟩;rw[ab (c9 y G)];exact(L.out y.1 U).2 ⟨y,a2 y G,rfl⟩
     ·have I:=L.ord;rw[D]at I;simp only[bz,bc,jn,jz]at I⊢;obtain⟨o1,⟨o2,o3⟩,o4⟩:=I;exact⟨o1,o3,λu hu v hv=>o4 u hu v (by simp[hv])⟩
     ·intro j oj U a9 e he hb;rw[hg]at a9⊢;split
      ·rfl
      ·split at a9
       ·rename_i a8;subst a8;rw[X]at U;simp at U;subst U;exact h3 e he hb
       ·exact L.cl j oj U a9 e he hb
     ·intro c0 z V d1 y G
      have:∃S N,rem=S++z::N/\y∈S:=by
       rcases List.append_eq_append_iff.1 d1 with⟨as,e1,e2⟩|⟨bs,e1,e2⟩
       ·
        refine⟨pre++x::as,V,by rw[D,e2];simp,?_⟩;rw[e1]at G;simp at G⊢;rcases G with G|G
        ·exact .inl G
        ·exact .inr (.inr G)
       ·cases bs with
        |nil=>
         simp at e1 e2;refine⟨pre++[x],V,?_,?_⟩
         ·rw[D,<-e2];simp
         ·rw[e1];simp[G]
        |cons b bs=>
         simp at e2;obtain⟨rfl,e2⟩:=e2;exact⟨c0,bs++x::post,by rw[D,e1];simp,G⟩
      obtain⟨S,N,q1,q2⟩:=this;exact L.pr S z N q1 y q2)
   unfold wpOp;rw[X];dsimp only;split
   ·rename_i hw;rw[aa hw]at a0;exact .inl a0
   ·rename_i hw;rw[ab hw]at a0;exact a0
end
open Go.RowKit
section
variable {P:Program} {C:Cfg} {w:World} {R:Type} {Z:Base}
theorem Z82 {c a:Bool} (h:(bif c then a else false)=true):c=true/\a=true:=by cases c<;>simp at h;exact⟨rfl,h⟩
theorem Q8l {ops:Array Oper} {m:List Nat}:∀(ps D:List (Nat×Oper×Option Prim)) (i:Nat),ps.map (·.1)=List.range' i ps.length->J8 C ops m i D (ps.map (·.2))=true->
  ∀pre x post,ps=pre++x::post->(Dd ops.toList m x.1||Prim.simple x.2.2)=true/\(∀e∈x.2.1.after,Region.binds .any e=true->e.on<x.1)/\
   ∀y∈D++pre,LS m x.1 y.1=true\/(Dd ops.toList m x.1=false/\Dd ops.toList m y.1=false/\Oper.apart ops y.2.1 x.2.1=true/\Prim.meet C.ro y.2.2 x.2.2=false/\Iu y.2.1 y.2.2 x.2.1 x.2.2=true)
 |[],D,i,_,_,pre,x,post,h=>by simp at h
 |(j,o,p)::ps,D,i,G,I,pre,x,post,h=>by
  simp only[bc,bf,List.range'_succ,ed]at G;obtain⟨rfl,G⟩:=G;simp only[bc,J8]at I;generalize S:((Dd ops.toList m j||Prim.simple p)&&o.after.toList.all (λe=> !(Region.binds .any e)||Nat.blt e.on j)&&Ak (λy:Nat×Oper×Option Prim=>LS m j y.1||(!(Dd ops.toList m j)&& !(Dd ops.toList m y.1)&&(Oper.apart ops y.2.1 o&& !(Prim.meet C.ro y.2.2 p)&&Iu y.2.1 y.2.2 o p))) D)=c at I;cases c
  ·simp at I
  ·simp only[ah]at I;simp only[ak]at S;obtain⟨⟨T,U⟩,V⟩:=S;cases pre with
   |nil=>
    simp at h;obtain⟨rfl,rfl⟩:=h;refine⟨T,λe he hb=> ?_,λy L=> ?_⟩
    ·have:=List.all_eq_true.1 U e (by simpa using he);rw[hb]at this;simpa using this
    ·simp at L;have:=Av.1 V y L;rw[jt]at this;simp only[ak,jg]at this;rcases this with h|⟨⟨X,Y⟩,⟨M,N⟩,O⟩
     ·exact .inl h
     ·exact .inr ⟨X,Y,M,N,O⟩
   |cons q pre=>
    simp at h;obtain⟨rfl,rfl⟩:=h;obtain⟨M,N,O⟩:=Q8l (pre++x::post) (D++[(j,o,p)]) (j+1) G I pre x post rfl;refine⟨M,N,λy L=>O y ?_⟩;simpa using L
theorem Qtf {ops:Array Oper} {m:List Nat}:∀(l:List (Oper×Option Prim)) (D:List (Nat×Oper×Option Prim)) (i:Nat),J8 C ops m i D l=true->∀(j:Nat) (q:Oper×Option Prim),l[j]? =some q->(Dd ops.toList m (i+j)||Prim.simple q.2)=true
 |[],_,_,_,j,q,G=>by simp at G
 |(o,p)::l,D,i,h,j,q,G=>by
  simp only[J8]at h;obtain⟨I,h⟩:=Z82 h;simp only[ak]at I;cases j with
  |zero=>simp at G;subst G;exact I.1.1
  |succ j=>
   rw[show i+(j+1)=i+1+j from by omega];exact Qtf l _ _ h j q (by simpa using G)
theorem Rel.drew {s:St} {tmps:Array Value} (h:Rel Z s tmps w):Rel Z s tmps {w with drawn:=w.drawn+1}:=by
 obtain⟨ρ,h⟩:=h;have D:∀(a:AC) (x:Value),CC ρ w a x->CC ρ {w with drawn:=w.drawn+1} a x:=λa x G=>CC.mono (w:=w) (w':={w with drawn:=w.drawn+1}) (λ_ h=>h) (λ_ _=>rfl) a x (AC.agree_refl rfl rfl rfl a) G;refine⟨ρ,h.tl,λi v N=>TVR.mono D v _ (h.tv i v N),h.wt,h.wb,?_,h.bi,?_,h.ri,h.br,h.ib,h.fr.drew,h.fs,h.i0,h.i1,h.k0⟩
 ·intro k b O;obtain⟨arr,I,L,M⟩:=h.bx k b O;exact⟨arr,I,L.mono λa _ x G=>D a x G,M⟩
 ·intro id r S;obtain⟨I,L,T,xs,M,U⟩:=h.ro id r S;exact⟨I,L,T,xs,M8 M (λ_ _=>rfl),RowC.mono (w:=w) (λ_ h=>h) (λ_ _=>rfl) U⟩
theorem Zkj (D:Aj P C) (O:∀t∈C.eqOk,P.stoodInHeld t=false) (S:P.follows .mixedOrders=true) {id:Nat} {ops:Array Oper} {draw:Bool} {s:St} {a:Act} (hR:Rel Z s a.tmps w) {K:St->Option R} {r:R}
  (h:ZJ P C ops draw s K=some r) {Q:Exit->Act->World->Prop} (hq:∀(s':St) (T:Act) (w':World),K s'=some r->Rel Z s' T.tmps w'->T.defers=a.defers->Q .normal T w'):
  (Code.region id ops draw).wp P Q a w:=by
 cases draw
 ·exact wp_region_list (Qma D O _ s a w hR h hq)
 ·simp only[ZJ,ah]at h;refine wp_region_any S ?_;obtain⟨m,h,hm⟩:=Q1u (ops:=ops.toList) ops.toList [] [] rfl rfl (λi j U=>by simp at U) h;rcases Qai D ops.toList 0 s _ r h with⟨ps,sf,V,q2,q3,q4⟩|⟨acc,sf,V,j,q,q2,q3⟩
  ·cases X:J8 C ops m 0 [] (ps.map (·.2))<;>rw[X]at q4
   ·simp at q4
   ·simp only[ah]at q4;have hlen:ps.length=ops.size:=by have:=ii List.length V;simpa using this
    have G:ps.map (·.1)=List.range' 0 ps.length:=by rw[q2];simp[hlen]
    have Y:=Q8l ps [] 0 G X;have L:∀(i:Nat) (x:Nat×Oper×Option Prim),ps[i]? =some x->x.1=i/\ops[i]? =some x.2.1:=by
     intro i x M;have N:(ps.map (·.1))[i]? =some x.1:=by simp[M]
     have h2:(ps.map (·.2.1))[i]? =some x.2.1:=by simp[M]
     rw[G,List.getElem?_range']at N;rw[V]at h2
     ·simp at N;exact⟨by omega,by simpa using h2⟩
     ·exact(fa.1 M).1
    refine Q5g D O (m:=m) (sf:=sf) (d0:=a.defers) (λT w' a0 a1=>hq sf T w' q4 a0 a1) ops.size _ ps s a _ hlen ?_ q3 hR.wf hR.drew rfl;refine⟨by simp,λx M=> ?_,λi U=> ?_,?_,?_,?_⟩
    ·obtain⟨pre,post,hs⟩:=List.append_of_mem M;obtain⟨c1,c2,_⟩:=Y pre x post hs;obtain⟨i,U⟩:=List.getElem?_of_mem M;obtain⟨p1,p2⟩:=L i x U;exact⟨by rw[p1];exact p2,c1,c2⟩
    ·constructor
     ·intro _;have I:i<ps.length:=by omega
      exact⟨ps[i],cd I,(L i ps[i] (am I)).1⟩
     ·intro _;simp[Array.getD,U]
    ·rw[G];exact List.pairwise_lt_range'
    ·intro j o hj hl;have I:j<ops.size:=(bt.1 hj).1;simp[Array.getD,I]at hl
    ·intro pre x post hs y hy;rcases(Y pre x post hs).2.2 y (by simpa using hy)with N|N
     ·exact .inl (hm _ _ N)
     ·exact .inr N
  ·cases X:J8 C ops m 0 [] acc<;>rw[X]at V
   ·simp at V
   ·have:=Qtf acc [] 0 X j q q2;rw[q3]at this;simp at this
def PO:Ex->Exit
 | .normal=> .normal
 | .exit id=> .exit id
 | .ret=> .ret
def KC (Z:Base) (K:Ex->St->Option R) (r:R) (d:List Deferred):Exit->Act->World->Prop:=
 λe a w=>∃D s,PO D=e/\K D s=some r/\Rel Z s a.tmps w/\a.defers=d
theorem Zdn {step:St->(Ex->St->Option R)->Option R} {body:Code} {K:Ex->St->Option R} {r:R} {d:List Deferred}
  (D:∀(s:St) (a:Act) (w:World) (N:Ex->St->Option R),Rel Z s a.tmps w->a.defers=d->step s N=some r->body.wp P (KC Z N r d) a w):
  ∀(n:Nat) (s:St) (a:Act) (w:World),Rel Z s a.tmps w->a.defers=d->PW P C step n s K=some r->Code.rounds P body (KC Z K r d) n a w
 |0,s,a,w,O,S,h=>by simp[PW]at h
 |n+1,s,a,w,O,S,h=>by
  rw[PW]at h;rw[rounds_succ];refine wp_mono (D s a w _ O S h) ?_;rintro e T w' ⟨U,s2,rfl,L,G,I⟩;cases U with
  |normal=>
   obtain⟨V,X,M⟩:=RC G L;exact Zdn D n V T w' M I X
  |exit id=>exact⟨.exit id,s2,rfl,L,G,I⟩
  |ret=>exact⟨.ret,s2,rfl,L,G,I⟩
def InZ (Z:Base):Prop:=∀k b,Z.K0 k=some b->Dh k=true
def KQ (P:Program) (c:Code) (sk:Sk) (g:IT):Prop:=
 ∀(Z:Base) (_:InZ Z) (a:Act) (w:World) (vars:List AC) (R:Type) (K:Ex->St->Option R) (r:R),Rel Z (AA sk vars) a.tmps w->g R vars K=some r->c.wp P (KC Z K r a.defers) a w
structure SubOK (P : Program) (C : Cfg) (c : Code) (blk : Nat) : Prop where
 l:∀p∈A4 c blk,∀sk g,C.loops p.1=some (sk,g)->KQ P (.loop p.2) sk g
 b:∀p∈Ck c,∀sk g,C.blocks p.1=some (sk,g)->KQ P (.block p.1 p.2) sk g
 c:∀p∈Bz c blk,∀sk g,C.conds p.1=some (sk,g)->KQ P (.cond (.tmp p.1) p.2.2.1 p.2.2.2) sk g
theorem IW:∀(c:Code) (b b':Nat),A4 c b=A4 c b'
 | .seq x y,b,b'=>by simp only[A4,IW x b b',IW y b b']
 | .cond _ x y,b,b'=>by simp only[A4,IW x b b',IW y b b']
 | .block _ x,b,b'=>by simp only[A4,IW x b b']
 | .loop x,b,b'=>by simp only[A4,IW x b b']
 | .skip,_,_=>rfl
 | .region _ _ _,_,_=>rfl
 | .exit _,_,_=>rfl
 | .ret,_,_=>rfl
 | .rangeFunc _ _ _ _,_,_=>rfl
 | .scope x,b,b'=>by simp only[A4,IW x b b']
 | .label _,_,_=>rfl
 | .goto _,_,_=>rfl
 | .refuse _,_,_=>rfl
theorem Jz:∀(c:Code) (b b':Nat),Bz c b=Bz c b'
 | .seq x y,b,b'=>by simp only[Bz,Jz x b b',Jz y b b']
 | .cond c x y,b,b'=>by cases c<;>simp only[Bz,Jz x b b',Jz y b b']
 | .block _ x,b,b'=>by simp only[Bz,Jz x b b']
 | .loop x,b,b'=>by simp only[Bz,Jz x b b']
 | .skip,_,_=>rfl
 | .region _ _ _,_,_=>rfl
 | .exit _,_,_=>rfl
 | .ret,_,_=>rfl
 | .rangeFunc _ _ _ _,_,_=>rfl
 | .scope x,b,b'=>by simp only[Bz,Jz x b b']
 | .label _,_,_=>rfl
 | .goto _,_,_=>rfl
 | .refuse _,_,_=>rfl
theorem SubOK.any {c:Code} (b:Nat) {b':Nat} (h:SubOK P C c b):SubOK P C c b':=
 ⟨λp D=>h.l p (by rw[IW c b b'];exact D),h.b,λp D=>h.c p (by rw[Jz c b b'];exact D)⟩
theorem Qet {c:Code} {told:Option (Sk×IT)} {s:St} {a:Act} {K:Ex->St->Option R} {r:R} {d:List Deferred} {run:Option R} (M:InZ Z)
  (N:∀sk g,told=some (sk,g)->KQ P c sk g) (G:Rel Z s a.tmps w) (O:a.defers=d) (h:Rz told s K run=some r) (D:run=some r->c.wp P (KC Z K r d) a w):c.wp P (KC Z K r d) a w:=by
 unfold Rz at h;split at h
 ·exact D h
 ·rename_i sk g;obtain⟨I,L⟩:=Bx h;split at L
  ·rename_i vars S;obtain⟨ρ,G⟩:=G;obtain⟨tm,aB,aC⟩:=s;subst O;exact N sk g rfl Z M a w vars R K r ⟨ρ,G.rebuild M I S⟩ L
  ·simp at L
theorem Zap {ρ:Env} {d:Nat} {a:AC} {x:Value} (h:CC ρ w a x):CC ρ w (a.killP d) x:=by
 cases a with
 |ptr k o=>simp only[AC.killP];cases Nat.beq k d<;>first|exact h|exact h.one
 |bsl k o=>simp only[AC.killP];cases Nat.beq k d<;>first|exact h|exact h.one
 |clo f fs cs=>simp only[AC.killP];cases(Ak (KH d) fs&&Ak (KH d) cs)<;>first|exact h|exact h.one
 |_=>exact h
theorem Va {ρ:Env} {f:AC->AC} (hf:∀(a:AC) (x:Value),CC ρ w a x->CC ρ w (f a) x):∀{l:List AC} {xs:List Value},CL (CC ρ w) l xs->CL (CC ρ w) (l.map f) xs
 |[],[],_=>trivial
 |_::_,_::_,h=>⟨hf _ _ h.1,Va hf h.2⟩
 |[],_::_,h=>h.elim
 |_::_,[],h=>h.elim
theorem Ydj {ρ:Env} {f:AC->AC} (hf:∀(a:AC) (x:Value),CC ρ w a x->CC ρ w (f a) x) {v:TV} {x:Value} (h:TVR ρ w v x):TVR ρ w (v.mapC f) x:=by
 cases v with
 |vD=>trivial
 |tup ps=>
  obtain⟨G,rfl,D⟩:=h;refine⟨G,rfl,?_⟩;generalize G.toList=l at D;induction ps generalizing l with
  |nil=>cases l<;>first|exact D|exact D.elim
  |cons p ps M=>
   cases l with
   |nil=>exact D.elim
   |cons y l=>
    obtain⟨g,cs⟩:=p;refine⟨?_,M l D.2⟩;have:=D.1;cases g
    ·obtain⟨a,I,L⟩:=this;subst I;exact⟨_,rfl,hf _ _ L⟩
    ·obtain⟨N,I,O⟩:=this;exact⟨N,I,Va hf O⟩
 |v g cs=>
  cases g
  ·obtain⟨a,rfl,L⟩:=h;exact⟨_,rfl,hf _ _ L⟩
  ·obtain⟨G,rfl,D⟩:=h;exact⟨G,rfl,Va hf D⟩
theorem RelE.forget {tm:List TV} {aB:List (Nat×Box)} {aC:List (Nat×Row)} {ρ:Env} {tmps:Array Value} (h:RelE Z tm aB aC ρ tmps w) {d:Nat} (hd:∀b,Z.K0 d≠some b):
  RelE Z (tm.map (TV.mapC (AC.killP d))) ((del d aB).map λp=>(p.1,(⟨p.2.ty,p.2.cells.map (AC.killP d)⟩:Box))) aC ρ tmps w:=by
 have S:∀k,Ab ((del d aB).map λp=>(p.1,(⟨p.2.ty,p.2.cells.map (AC.killP d)⟩:Box))) k=(Ab (del d aB) k).map λb=>⟨b.ty,b.cells.map (AC.killP d)⟩:=λk=>Fd (λb:Box=>(⟨b.ty,b.cells.map (AC.killP d)⟩:Box)) _ k;have G:∀(k:Nat) (b:Box),Ab ((del d aB).map λp=>(p.1,(⟨p.2.ty,p.2.cells.map (AC.killP d)⟩:Box))) k=some b->k≠d/\∃b',Ab aB k=some b'/\b=⟨b'.ty,b'.cells.map (AC.killP d)⟩:=by
  intro k b D;rw[S]at D;simp only[bh]at D;obtain⟨b',V,rfl⟩:=D;obtain⟨X,Y⟩:=LY V;exact⟨X,b',Y,rfl⟩
 have L:∀(k:Nat) (b:Box),k≠d->Ab aB k=some b->∃b',Ab ((del d aB).map λp=>(p.1,(⟨p.2.ty,p.2.cells.map (AC.killP d)⟩:Box))) k=some b':=λk b a0 D=>⟨_,by rw[S,Kw _ _ _ a0,D];rfl⟩;have T:∀a,KH d a=true->AC.wfP aB a->AC.wfP ((del d aB).map λp=>(p.1,(⟨p.2.ty,p.2.cells.map (AC.killP d)⟩:Box))) a:=by
  intro a hn I;cases a<;>try exact trivial
  rename_i k o;obtain⟨b,hb⟩:=I;simp only[KH,jg]at hn;exact L k b (GR hn) hb
 have N:∀a,AC.wf aB aC a->AC.wf ((del d aB).map λp=>(p.1,(⟨p.2.ty,p.2.cells.map (AC.killP d)⟩:Box))) aC (a.killP d):=by
  intro a I;cases a with
  |ptr k o=>
   simp only[AC.killP];cases D:Nat.beq k d
   ·obtain⟨b,hb⟩:=I;exact L k b (GR D) hb
   ·exact trivial
  |bsl k o=>
   simp only[AC.killP];cases D:Nat.beq k d
   ·obtain⟨b,hb⟩:=I;exact L k b (GR D) hb
   ·exact trivial
  |clo f fs cs=>
   simp only[AC.killP];cases M:(Ak (KH d) fs&&Ak (KH d) cs)
   ·exact trivial
   ·simp only[ak]at M;exact⟨λa h'=>T a (Av.1 M.1 a h') (I.1 a h'),λa h'=>T a (Av.1 M.2 a h') (I.2 a h')⟩
  |_=>exact I
 refine⟨by simpa using h.tl,?_,?_,?_,?_,?_,h.ro,h.ri,?_,?_,h.fr,h.fs,h.i0,h.i1,?_⟩
 ·intro i v hi;simp only[dy,bh]at hi;obtain⟨u,hu,rfl⟩:=hi;exact Ydj (λ_ _=>Zap) (h.tv i u hu)
 ·intro v hv;simp only[av]at hv;obtain⟨u,hu,rfl⟩:=hv;have:=h.wt u hu;cases u with
  |vD=>trivial
  |v g cs=>
   intro a I;simp only[av]at I;obtain⟨c,M,rfl⟩:=I;exact N c (this c M)
  |tup ps=>
   intro p hp a I;simp only[av]at hp;obtain⟨q,hq,rfl⟩:=hp;simp only[av]at I;obtain⟨c,M,rfl⟩:=I;exact N c (this q hq c M)
 ·intro k b D a I;obtain⟨_,b',O,rfl⟩:=G k b D;simp only[av]at I;obtain⟨c,M,rfl⟩:=I;exact N c (h.wb k b' O c M)
 ·intro k b D;obtain⟨_,b',O,rfl⟩:=G k b D;obtain⟨arr,V,X,Y⟩:=h.bx k b' O;exact⟨arr,V,Va (λ_ _=>Zap) X,Y⟩
 ·intro k k' b b' D a1;obtain⟨_,_,U,_⟩:=G k b D;obtain⟨_,_,p2,_⟩:=G k' b' a1;exact h.bi k k' _ _ U p2
 ·intro k b j q D hq;obtain⟨_,_,U,_⟩:=G k b D;exact h.br k _ j q U hq
 ·intro b hb;obtain⟨q1,q2,q3⟩:=h.ib b hb;exact⟨q1,λk bo D=>by obtain⟨_,_,p,_⟩:=G k bo D;exact q2 k _ p,q3⟩
 ·intro k b D;obtain⟨U,bo,p2⟩:=h.k0 k b D;exact⟨U,L k bo (by rintro rfl;exact hd b D) p2⟩
theorem Qcp (G:InZ Z) {tmps:Array Value} {K:St->Option R} {r:R}:∀(l:List Nat) (s:St),Rel Z s tmps w->R0 l s K=some r->∃L,K L=some r/\Rel Z L tmps w
 |[],s,D,h=>⟨s,h,D⟩
 |d::l,⟨tm,aB,aC⟩,D,h=>by
  simp only[R0]at h;split at h
  ·exact Qcp G l _ D h
  ·cases I:Dh d<;>rw[I]at h
   ·simp only[aq,AY]at h;obtain⟨ρ,D⟩:=D;exact Qcp G l _ ⟨ρ,D.forget (d:=d) λb hb=>by rw[G d b hb]at I;cases I⟩ h
   ·simp at h
theorem FB (D:Aj P C) (U:∀t∈C.eqOk,P.stoodInHeld t=false) (N:P.follows .mixedOrders=true) (hZ:InZ Z) {r:R} {d:List Deferred}:
  ∀(c:Code) (L blk:Nat) (s:St) (a:Act) (w:World) (K:Ex->St->Option R),SubOK P C c blk->Rel Z s a.tmps w->a.defers=d->BX P C L c blk s K=some r->c.wp P (KC Z K r d) a w
 | .skip,L,blk,s,a,w,K,I,O,S,h=>wp_skip ⟨.normal,s,rfl,h,O,S⟩
 | .region id ops draw,L,blk,s,a,w,K,I,O,S,h=>by
  rw[BX]at h;obtain⟨s0,h,O⟩:=Qcp hZ _ s O h;exact Zkj D U N O h λX a' w' V M T=>⟨.normal,X,rfl,V,M,T.trans S⟩
 | .seq x y,L,blk,s,a,w,K,I,O,S,h=>by
  rw[BX]at h;refine wp_seq (wp_mono (FB D U N hZ x L blk s a w _ ⟨λp G=>I.l p (by simp[A4,G]),λp G=>I.b p (by simp[Ck,G]),λp G=>I.c p (by simp[Bz,G])⟩ O S h) ?_);rintro e a' w' ⟨ae,X,rfl,V,M,T⟩;cases ae with
  |normal=>exact FB D U N hZ y L blk X a' w' K ⟨λp G=>I.l p (by simp[A4,G]),λp G=>I.b p (by simp[Ck,G]),λp G=>I.c p (by simp[Bz,G])⟩ M T V
  |exit id=>exact⟨.exit id,X,rfl,V,M,T⟩
  |ret=>exact⟨.ret,X,rfl,V,M,T⟩
 | .cond c x y,L,blk,s,a,w,K,I,O,S,h=>by
  have hx:SubOK P C x blk:=⟨λp G=>I.l p (by simp[A4,G]),λp G=>I.b p (by simp[Ck,G]),λp G=>I.c p (by cases c<;>simp[Bz,G])⟩;have hy:SubOK P C y blk:=⟨λp G=>I.l p (by simp[A4,G]),λp G=>I.b p (by simp[Ck,G]),λp G=>I.c p (by cases c<;>simp[Bz,G])⟩;rw[BX]at h;refine Qet (c:= .cond c x y) hZ ?_ O S h λY=> ?_
  ·intro sk g ht;unfold Q59 at ht;split at ht
   ·rename_i t;exact I.c (t,0,x,y) (by simp[Bz]) sk g ht
   ·simp at ht
  ·split at Y
   ·rename_i g hg;have hc:a.eval c= .bool g:=by
     obtain⟨ρ,a0⟩:=O;have:=Qif a0 c;rw[hg]at this;exact this.bool
    refine wp_cond hc ?_;split at Y
    ·rename_i t;have a1:∀b,g=b->Rel Z ⟨setL s.tmps t (.c (.bool b)),s.aB,s.aC⟩ a.tmps w:=by
      rintro b rfl;obtain⟨ρ,a0⟩:=O;exact⟨ρ,a0.learn t (by have e:a.tmps.getD t undef= .bool g:=hc;rw[e];exact TVR.mkBool _) (FZ _)⟩
     cases g
     ·simp only[aq]at Y;rw[Fe]at Y;exact FB D U N hZ y L blk _ a w K hy (a1 false rfl) S Y
     ·simp only[ah]at Y;rw[Fe]at Y;exact FB D U N hZ x L blk _ a w K hx (a1 true rfl) S Y
    ·cases g
     ·exact FB D U N hZ y L blk s a w K hy O S Y
     ·exact FB D U N hZ x L blk s a w K hx O S Y
   ·simp at Y
 | .block id body,L,blk,s,a,w,K,I,O,S,h=>by
  have hb:SubOK P C body id:=SubOK.any blk ⟨λp G=>I.l p (by simp[A4,G]),λp G=>I.b p (by simp[Ck,G]),λp G=>I.c p (by simp[Bz,G])⟩;rw[BX]at h;refine Qet (c:= .block id body) hZ (I.b (id,body) (by simp[Ck])) O S h λY=> ?_;refine wp_block (wp_mono (FB D U N hZ body L id s a w _ hb O S Y) ?_);rintro e a' w' ⟨ae,X,rfl,V,M,T⟩;cases ae with
  |normal=>exact⟨.normal,X,rfl,V,M,T⟩
  |exit i=>
   simp only[PO,Exit.inBlock];dsimp only at V;cases hb:Nat.beq i id<;>rw[hb]at V
   ·have:i≠id:=λe=>by rw[e]at hb;simp at hb
    rw[ab this];exact⟨.exit i,X,rfl,V,M,T⟩
   ·rw[aa (ac hb)];exact⟨.normal,X,rfl,V,M,T⟩
  |ret=>exact⟨.ret,X,rfl,V,M,T⟩
 | .loop body,L,blk,s,a,w,K,I,O,S,h=>by
  rw[BX]at h;obtain⟨X,h',M⟩:=SN _ s a.tmps O _ r h;obtain⟨s1,h1,a2⟩:=RC M h';have hb:SubOK P C body blk:=⟨λp G=>I.l p (by simp[A4,G]),λp G=>I.b p (by simp[Ck,G]),λp G=>I.c p (by simp[Bz,G])⟩;refine Qet (c:= .loop body) hZ (I.l (Vh body,body) (by simp[A4])) a2 S h1 λY=> ?_;exact wp_loop_rounds L (Zdn (λs a w K' O S h=>FB D U N hZ body L blk s a w K' hb O S h) L s1 a w a2 S Y)
 | .exit id,L,blk,s,a,w,K,I,O,S,h=>wp_exit ⟨.exit id,s,rfl,h,O,S⟩
 | .ret,L,blk,s,a,w,K,I,O,S,h=>wp_ret ⟨.ret,s,rfl,h,O,S⟩
 | .rangeFunc f ps a3 body,L,blk,s,a,w,K,I,O,S,h=>by simp[BX]at h
 | .scope b,L,blk,s,a,w,K,I,O,S,h=>by
  rw[BX]at h;refine wp_scope_straight (wp_mono (FB D U N hZ b L blk s a w K ⟨λp G=>I.l p (by simp[A4,G]),λp G=>I.b p (by simp[Ck,G]),λp G=>I.c p (by simp[Bz,G])⟩ O S h) ?_);rintro e a' w' ⟨ae,X,rfl,V,M,T⟩;cases ae with
  |normal=>exact⟨.normal,X,rfl,V,M,T⟩
  |exit i=>exact⟨.exit i,X,rfl,V,M,T⟩
  |ret=>exact⟨.ret,X,rfl,V,M,T⟩
 | .label l,L,blk,s,a,w,K,I,O,S,h=>by
  rw[BX]at h;exact wp_label ⟨.normal,s,rfl,h,O,S⟩
 | .goto l,L,blk,s,a,w,K,I,O,S,h=>by simp[BX]at h
 | .refuse a4,L,blk,s,a,w,K,I,O,S,h=>by simp[BX]at h
theorem Yah {e D:Ex} (h:Vu e D=true):e=D:=by
 cases e<;>cases D<;>simp only[Vu]at h<;>first|rfl|(simp at h;done)|(rw[ac h])
theorem Q8n {s:St} {I:Ex} {tmps:Array Value} (M:InZ Z) (G:Rel Z s tmps w):∀{D:List (Ex×Sk)} {i n:Nat} {o:List AC},LK D i I s=some (n,o)->
  i<=n/\∃sk,(∀(R:Type) (K:Ex->St->Option R),PE o K D i n=K I (AA sk o))/\Rel Z (AA sk o) tmps w
 |[],i,n,o,h=>by simp[LK]at h
 |(e,sk)::l,i,n,o,h=>by
  simp only[LK]at h;cases hb:(Vu e I&&sk.okB)<;>rw[hb]at h
  ·simp only[aq]at h;obtain⟨T,L,N,O⟩:=Q8n M G h;refine⟨by omega,L,λR K=> ?_,O⟩;simp only[PE];rw[Kl (by omega)];exact N R K
  ·simp only[ah]at h;simp only[ak]at hb;split at h
   ·rename_i vars S;simp at h;obtain⟨rfl,rfl⟩:=h;refine⟨cm _,sk,λR K=> ?_,?_⟩
    ·simp only[PE,jj,ah];rw[Yah hb.1]
    ·obtain⟨ρ,G⟩:=G;obtain⟨tm,aB,aC⟩:=s;exact⟨ρ,G.rebuild M hb.2 S⟩
   ·simp at h
theorem Zyo (I:Aj P C) (a0:∀t∈C.eqOk,P.stoodInHeld t=false) (S:P.follows .mixedOrders=true) {L blk:Nat} {body:Code} {sk:Sk} {D:List (Ex×Sk)} {m:List AC->Option (Nat×List AC)}
  (a1:sk.okB=true) (T:SubOK P C body blk) (hm:∀vars o,m vars=some o->∃n,CA (AL P C L blk body sk D) n vars=some o):KQ P (.loop body) sk (gOf D m):=by
 intro Z hZ a w vars R K r hR h;simp only[gOf,bv]at h;obtain⟨⟨t,o⟩,h1,h2⟩:=h;obtain⟨n,hn⟩:=hm vars _ h1;have key:∀(n:Nat) (vars:List AC) (N:Act) (w':World),Rel Z (AA sk vars) N.tmps w'->N.defers=a.defers->CA (AL P C L blk body sk D) n vars=some (t,o)->Code.rounds P body (KC Z K r a.defers) n N w':=by
  intro n;induction n with
  |zero=>intro vars N w' _ _ h;simp[CA]at h
  |succ n ih=>
   intro vars N w' a3 a4 h;simp only[CA,bv]at h;obtain⟨⟨t',o'⟩,q1,O⟩:=h;rw[rounds_succ];refine wp_mono (FB I a0 S hZ body L blk _ N w' _ T a3 a4 q1) ?_;rintro e a2 w2 ⟨ae,s',rfl,hK,U,V⟩;have G:∀X:Ex,LK D 1 X s'=some (t',o')->KC Z K r a.defers (PO X) a2 w2:=by
    intro X hx;obtain⟨p1,a5,p2,p3⟩:=Q8n hZ U hx;have ht:t'≠0:=by omega
    dsimp only at O;rw[ab ht]at O;simp at O;obtain⟨rfl,rfl⟩:=O;rw[p2 R K]at h2;exact⟨X,_,rfl,h2,p3,V⟩
   cases ae with
   |normal=>
    obtain⟨s3,Y,M⟩:=RC U hK;split at Y
    ·rename_i vars' hv;simp at Y;obtain⟨rfl,rfl⟩:=Y;simp only[dt]at O;obtain⟨ρ,M⟩:=M;obtain⟨tm,aB,aC⟩:=s3;exact ih _ a2 w2 ⟨ρ,M.rebuild hZ a1 hv⟩ V O
    ·simp at Y
   |exit i=>exact G _ hK
   |ret=>exact G _ hK
 exact wp_loop_rounds n (key n vars a w hR rfl hn)
end
open Go.RowKit
section
variable {P:Program} {C:Cfg} {w:World} {R:Type} {Z:Base}
theorem RelE.slots {tm G:List TV} {aB:List (Nat×Box)} {aC:List (Nat×Row)} {ρ:Env} {tmps D:Array Value} (h:RelE Z tm aB aC ρ tmps w) (I:G.length=D.size)
  (L:∀(i:Nat) (v:TV),G[i]? =some v->TVR ρ w v (D.getD i undef)) (M:∀v∈G,TV.wf aB aC v):RelE Z G aB aC ρ D w:=
 ⟨I,L,M,h.wb,h.bx,h.bi,h.ro,h.ri,h.br,h.ib,h.fr,h.fs,h.i0,h.i1,h.k0⟩
theorem Q5r {s:St} {a:Act} {ρ:Env} (M:RelE Z s.tmps s.aB s.aC ρ a.tmps w):∀(l:List ResultVar) (ps:List (Bool×List AC)),Le P s l=some ps->
  ∃ xs : List Value, (l.mapM fun
   | .tmp t=>pure (a.tmps.getD t undef)
   | .cell b t=>do loadVar t (<-asAddr (a.tmps.getD b undef)):Sem (List Value)).run P w= .ok xs w/\TP ρ w ps xs/\∀p∈ps,∀c∈p.2,AC.wf s.aB s.aC c
 |[],ps,h=>by simp[Le]at h;subst h;exact⟨[],rfl,trivial,by simp⟩
 |rv::l,ps,h=>by
  simp only[Le]at h;split at h
  ·rename_i g cs D;split at h
   ·rename_i U V;simp at h;subst h;obtain⟨xs,h1,h2,h3⟩:=Q5r M l U V;have key : ∃ x, ((match rv with
      | .tmp t=>pure (a.tmps.getD t undef)
      | .cell b t=>do loadVar t (<-asAddr (a.tmps.getD b undef)):Sem Value)).run P w= .ok x w/\TVR ρ w (.v g cs) x/\TV.wf s.aB s.aC (.v g cs):=by
     cases rv with
     |tmp t=>
      simp only[Qoc]at D;split at D
      ·rename_i g' N O;simp at D;obtain⟨rfl,rfl⟩:=D;have X:t<s.tmps.length:=by
        rcases jv t s.tmps.length with I|L
        ·exact I
        ·rw[BU,List.getD,de L]at O;simp at O
       have G:s.tmps[t]? =some (.v g' N):=by
        rw[BU,List.getD]at O;rw[am X]at O⊢;simpa using O
       exact⟨_,by simp,M.tv t _ G,M.wt _ (bm G)⟩
      ·simp at D
     |cell b t=>
      simp only[Qoc]at D;split at D
      ·rename_i key off g' sz hb hg hs;have Y:b<s.tmps.length:=by
        rcases jv b s.tmps.length with I|L
        ·exact I
        ·rw[BU,List.getD,de L]at hb;simp at hb
       have G:s.tmps[b]? =some (.c (.ptr key off)):=by
        rw[BU,List.getD]at hb;rw[am Y]at hb⊢;simpa using hb
       have hc:=(M.tv b _ G).c;simp only[CC]at hc;split at D
       ·rename_i bo S;obtain⟨arr,q1,q2,q3⟩:=M.bx key bo S;obtain ⟨x, q4, q5⟩ := Vy (b := ρ.bx key) (o := 0) hg hs D q2 (λj y hj => by
         simp only[du];rw[cell_of_row w _ j arr bo.ty (0,0) q1];simpa using hj)
        rw[du]at q4;exact⟨x,by simp[hc,asAddr,q4],q5,Rn D (M.wb key bo S)⟩
       ·simp at D
      ·simp at D
    obtain⟨x,k1,k2,k3⟩:=key;refine⟨x::xs,?_,?_,?_⟩
    ·rw[List.mapM_cons];simp only[Sem.run_bind,Sem.run_pure];rw[k1];simp only[cq];rw[h1];rfl
    ·refine⟨?_,h2⟩;cases g<;>exact k2
    ·intro p T;simp only[ay]at T;rcases T with rfl|T
     ·exact k3
     ·exact h3 p T
   ·simp at h
  ·simp at h
theorem Qb:∀(ks:List Kd) (cs:List AC),(DC ks cs).length=cs.length
 |[],[]=>rfl
 |[],_::_=>rfl
 | .sl _::_,[]=>rfl
 | .int _::_,[]=>rfl
 | .bool::_,[]=>rfl
 | .raw::_,[]=>rfl
 | .int _::l,_::cs=>by simp[DC,Qb l cs]
 | .bool::l,_::cs=>by simp[DC,Qb l cs]
 | .raw::l,_::cs=>by simp[DC,Qb l cs]
 | .sl _::l,a::cs=>by cases a<;>simp[DC,Qb l cs]
theorem Qxh {ρ:Env}:∀(D:List TypeId) (ps:List (Bool×List AC)) (xs:List Value),TP ρ w ps xs->TP ρ w (HK P D ps) xs
 |[],ps,xs,h=>by simpa [HK]using h
 |_::_,[],xs,h=>by simpa [HK]using h
 |t::D,(g,cs)::ps,[],h=>h.elim
 |t::D,(g,cs)::ps,x::xs,h=>by
  refine⟨?_,Qxh D ps xs h.2⟩;have G:=h.1;cases T:FW P 8 t with
  |none=>exact G
  |some ks=>
   cases g
   ·obtain⟨a,rfl,L⟩:=G;have:=KZ ks [a] [x] ⟨L,trivial⟩;have I:=Qb ks [a];generalize M:DC ks [a]=l at this I;cases l with
    |nil=>simp at I
    |cons b l=>
     cases l with
     |nil=>exact⟨b,M,this.1⟩
     |cons=>simp at I
   ·obtain⟨N,O,S⟩:=G;exact⟨N,O,KZ ks cs _ S⟩
theorem Q79 {aB:List (Nat×Box)} {aC:List (Nat×Row)}:∀(G:List TypeId) (ps:List (Bool×List AC)),(∀p∈ps,∀c∈p.2,AC.wf aB aC c)->∀p∈HK P G ps,∀c∈p.2,AC.wf aB aC c
 |[],ps,h=>by simpa [HK]using h
 |_::_,[],h=>by simp[HK]
 |t::G,(g,cs)::ps,h=>by
  intro p D;simp only[HK,ay]at D;rcases D with rfl|D
  ·cases L:FW P 8 t with
   |none=>exact h (g,cs) (by simp)
   |some ks=>exact Nu ks cs (h (g,cs) (by simp))
  ·exact Q79 G ps (λq I=>h q (by simp[I])) p D
theorem Q1l {ρ:Env}:∀{ps:List (Bool×List AC)} {xs:List Value},TP ρ w ps xs->ps.length=xs.length
 |[],[],_=>rfl
 |_::_,_::_,h=>by simp[Q1l h.2]
 |[],_::_,h=>h.elim
 |_::_,[],h=>h.elim
theorem Zsk {ρ:Env} {ps:List (Bool×List AC)} {xs:List Value} (h:TP ρ w ps xs):TVR ρ w (K7 ps) (if h:xs.length=1 then xs[0]else .tuple xs.toArray):=by
 have D:=Q1l h
 match ps,xs,h with
 |[],[],_=>exact⟨#[],rfl,trivial⟩
 |[(g,cs)],[x],h=>
  simp only[K7,dc,dite_true,List.getElem_cons_zero];have:=h.1;cases g<;>exact this
 |p::q::ps,x::y::xs,h=>
  have: ¬(x::y::xs).length=1:=by simp
  rw[dif_neg this];exact⟨_,rfl,by simpa using h⟩
theorem Zf7 {keys ids:List Nat} {ps:List (Bool×List AC)} (h:Ak (λp:Bool×List AC=>Ak (AC.inK keys ids) p.2) ps=true):TV.inK keys ids (K7 ps)=true:=by
 match ps,h with
 |[],h=>exact h
 |[(g,cs)],h=>exact Av.1 h (g,cs) (by simp)
 |p::q::ps,h=>exact h
theorem Zf0 {aB:List (Nat×Box)} {aC:List (Nat×Row)} {ps:List (Bool×List AC)} (h:∀p∈ps,∀c∈p.2,AC.wf aB aC c):TV.wf aB aC (K7 ps):=by
 match ps,h with
 |[],h=>exact h
 |[(g,cs)],h=>exact h (g,cs) (by simp)
 |p::q::ps,h=>exact h
theorem Zal {M:Func} {keys0:List Nat} {s:St} {a:Act} (hR:Rel Z s a.tmps w) (a0:∀k b,Z.K0 k=some b->k∈keys0) {K:TV->Mem->Option R} {r:R} (h:Pa P C M keys0 s K=some r):
  ∃x ρ' v m,K v m=some r/\(results M a.tmps).run P w= .ok x w/\RelE Z [v] m.aB m.aC ρ' #[x] w/\(C.keepIn=true->a.tmps.getD 0 undef=ρ'.rv base):=by
 unfold Pa at h;split at h
 ·simp at h
 ·rename_i ps a5;have h1:∃s1,(H3 P C s1 λs1=>match Le P s1 M.results.toList with
    |none=>none
    |some ps=>match s1 with
     |⟨tm,aB,aC⟩=>
      bif !C.keepIn||Qfy tm then
      AO (HK P M.resultTypes.toList ps) λps=>
      AO (Lv aB 4 (AV (cat (λp:Bool×List AC=>cat AC.keys p.2) ps) keys0)) λkeys=>
      AO (NX aB (cat (λp:Bool×List AC=>p.2) ps) keys) λids=>
      AO (aB.filter λp=>AN keys p.1) λD=>
      AO (aC.filter λp=>AN ids p.1||Dh p.1) λN=>
      bif Ak (λp:Bool×List AC=>Ak (AC.inK keys ids) p.2) ps&&Ak (λp:Nat×Box=>Ak (AC.inK keys ids) p.2.cells) D&&Ak (Ea aB) keys0&&Ak (AN keys) keys0 then K (K7 ps) (⟨D,N⟩:Mem)else none else none)=some r/\Rel Z s1 a.tmps w:=by
   cases ho:C.ownRes<;>rw[ho]at h
   ·exact UG _ s a.tmps hR _ _ h
   ·exact⟨s,h,hR⟩
  obtain⟨s1,h1,a1⟩:=h1;obtain⟨s2,I,ρ,O⟩:=RC a1 h1;split at I
  ·simp at I
  ·rename_i a2 U;obtain⟨xs,q1,q2,q3⟩:=Q5r O _ _ U;obtain⟨tm,aB,aC⟩:=s2;dsimp only at I;obtain⟨G,I⟩:=Zd0 I;have S:C.keepIn=true->a.tmps.getD 0 undef=ρ.rv base:=λhk=>by
    rw[hk]at G;simp only[Bool.not_true,Bool.false_or]at G;unfold Qfy at G;split at G
    ·have e:=ac G;subst e;have:=O.tv 0 _ rfl;obtain⟨y,hy,T⟩:=this;simp only[ed,jh]at hy;subst hy;exact T.1
    ·simp at G
   simp only[AY]at I;have V:=Qxh M.resultTypes.toList _ _ q2 (P:=P);have X:=Q79 M.resultTypes.toList _ q3 (P:=P);generalize HK P M.resultTypes.toList a2=L at I V X;generalize Lv aB 4 (AV (cat (λp:Bool×List AC=>cat AC.keys p.2) L) keys0)=keys at I;generalize NX aB (cat (λp:Bool×List AC=>p.2) L) keys=ids at I;obtain⟨T,I⟩:=Bx I;simp only[ak]at T;have Y:(results M a.tmps).run P w= .ok (if h:xs.length=1 then xs[0]else .tuple xs.toArray) w:=by
    unfold results;rw[Array.mapM_eq_mapM_toList];simp only[Sem.run_bind,Sem.run_map];erw[q1]
    simp only[cq,Sem.run_pure];congr 1
   have a3:TV.inK keys ids (K7 L)=true:=Zf7 T.1.1.1;have a4:TV.wf aB aC (K7 L):=Zf0 X;refine⟨_,ρ,_,_,I,Y,?_,S⟩;refine O.filter (by simp) (λi v hi=> ?_) (λv hv=> ?_) (by simp[Ak,a3]) T.1.1.2 (λk b hk=>Av.1 T.2 k (a0 k b hk))
   ·cases i with
    |zero=>simp at hi;subst hi;simpa using Zsk V
    |succ i=>simp at hi
   ·simp at hv;subst hv;exact a4
theorem Zdj (I:Aj P C) (Y:∀t∈C.eqOk,P.stoodInHeld t=false) (O:P.follows .mixedOrders=true) (hZ:InZ Z) {L:Nat} {f:FuncId} {args:List TV} {mem:Mem} {K:TV->Mem->Option R} {r:R}
  (S:∀c,Jc P f=some c->SubOK P C c 0) (h:EH P C L f args mem K=some r) {ρ:Env} {xs:List Value} (D:RelE Z args mem.aB mem.aC ρ xs.toArray w):
  Calls P f xs.toArray w λe w'=>∃x T v m,e= .returned x/\K v m=some r/\RelE Z [v] m.aB m.aC T #[x] w':=by
 unfold EH at h;split at h
 ·rename_i N U;split at h
  ·rename_i c hc;obtain⟨_,h⟩:=Bx h;simp only[AY]at h;have V:P.funcs[f]? =some N:=by simpa using U
   have hs:=S c (by unfold Jc;rw[U];exact hc);refine calls_of_wp V hc ?_;have hlen:xs.length=args.length:=by simpa using D.tl.symm
   have hR:Rel Z ⟨args++List.replicate (N.ntmps-args.length) TV.vD,mem.aB,mem.aC⟩ (xs.toArray++Array.replicate (N.ntmps-xs.toArray.size) undef) w:=by
    refine⟨ρ,D.slots (by simp[hlen]) (λi u X=> ?_) (λu M=> ?_)⟩
    ·rw[fy]at X;split at X
     ·rename_i a4;have a0:i<xs.length:=by omega
      have e:(xs.toArray++Array.replicate (N.ntmps-xs.toArray.size) undef).getD i undef=xs.toArray.getD i undef:=by
       simp[ju,Array.getElem?_append,a0]
      rw[e];exact D.tv i u X
     ·have:=bm X;rw[gj]at this;rw[this.2];trivial
    ·rw[bj]at M;rcases M with M|M
     ·exact D.wt u M
     ·rw[gj]at M;rw[M.2];trivial
   refine wp_mono (FB I Y O hZ c L 0 _ ⟨_,[]⟩ w _ hs hR rfl h) ?_;rintro e a' w' ⟨ae,s,rfl,hK,a1,hd⟩;have a2:∀k b,Z.K0 k=some b->k∈mem.aB.map (·.1):=by
    intro k b hk;obtain⟨_,bo,a3⟩:=D.k0 k b hk;exact L4.2 ⟨bo,a3⟩
   have G:Pa P C N (mem.aB.map (·.1)) s K=some r->a'.defers=[]/\∃x,(results N a'.tmps).run P w'= .ok x w'/\∃y T v m,Ending.returned x= .returned y/\K v m=some r/\RelE Z [v] m.aB m.aC T #[y] w':=by
    intro hf;obtain⟨x,T,v,m,h0,h1,h2,_⟩:=Zal a1 a2 hf;exact⟨hd,x,h1,x,T,v,m,rfl,h0,h2⟩
   cases ae with
   |normal=>
    obtain⟨q1,x,q2,q3⟩:=G hK;exact⟨q1,x,q2,q3⟩
   |ret=>
    obtain⟨q1,x,q2,q3⟩:=G hK;exact⟨q1,x,q2,q3⟩
   |exit id=>simp at hK
  ·simp at h
 ·simp at h
theorem Qr {F:Nat->Prop} {ρ:Env} {aB:List (Nat×Box)} {I:Gt F w} (h:Ak (λp:Nat×Box=>Dh p.1) aB=true):InZ (Eh F w ρ aB I):=by
 intro k b G;simp only[Eh,bh]at G;obtain⟨bo,D,_⟩:=G;exact Av.1 h (k,bo) (OI D)
theorem Rk {sig osig:Sk} {m:List AC->Option (List AC)} (R:Type) (args:List TV) (mem:Mem) (K:TV->Mem->Option R):Ad sig osig m R args mem K=(Ad sig osig m (TV×Mem) args mem λv m=>some (v,m)).bind λp=>K p.1 p.2:=by
  obtain⟨aB,aC⟩:=mem;simp only[Ad];cases Ak (λp:Nat×Box=>Dh p.1) aB
  ·rfl
  ·simp only[ah];cases Dm sig ⟨args,aB,aC⟩with
   |none=>rfl
   |some vars=>
    dsimp only;cases m vars with
    |none=>rfl
    |some o=>
     simp only[af];generalize AA osig o=s;obtain⟨tm,b,r⟩:=s;dsimp only;split<;>rfl
theorem Q4a (I:Aj P C) (X:∀t∈C.eqOk,P.stoodInHeld t=false) (O:P.follows .mixedOrders=true) {L:Nat} {f:FuncId} {sig D:Sk} {m:List AC->Option (List AC)} (h1:sig.okB=true) (h2:D.okB=true)
  (S:∀c,Jc P f=some c->SubOK P C c 0) (hm:∀vars o,m vars=some o->An P C L f sig D vars=some o) {args:List TV} {mem:Mem} {v:TV} {mem':Mem} (h:(Ad sig D m (TV×Mem) args mem λv m=>some (v,m))=some (v,mem')):PCallM P f args mem v mem':=by
  obtain⟨aB,aC⟩:=mem;simp only[Ad]at h;obtain⟨Y,h⟩:=Bx h;split at h
  ·rename_i vars hv;simp only[bv]at h;obtain⟨o,ho,h⟩:=h;have G:=hm vars o ho;intro F w hG ρ xs a0;have hZ:InZ (Eh F w ρ aB hG):=Qr Y;have M:=a0.rebuild hZ h1 hv;unfold An at G;generalize hs:AA sig vars=s1 at G M;obtain⟨a1,V,a2⟩:=s1;dsimp only at G M;refine(Zdj I X O hZ S G M).mono ?_;rintro e w' ⟨x,ρ',v',m',he,T,U⟩;obtain⟨b',r'⟩:=m';dsimp only at T U;have N:=U.rebuild hZ h2 T;generalize a3:AA D o=s2 at h N;obtain⟨tm,b2,r2⟩:=s2;dsimp only at h N;split at h
   ·simp only[an,cg]at h;obtain⟨rfl,rfl⟩:=h;exact⟨x,ρ',he,N⟩
   ·simp at h
  ·simp at h
theorem Ztk (G:Aj P C) (N:∀t∈C.eqOk,P.stoodInHeld t=false) (I:P.follows .mixedOrders=true) {L:Nat} {f:FuncId} (O:QC P f) {sig D:Sk} {m:List AC->Option (List AC)} (S:sig.okB=true) (T:D.okB=true)
  (M:∀c,Jc P f=some c->SubOK P C c 0) (U:∀vars o,m vars=some o->An P C L f sig D vars=some o):SpecRight P f (Ad sig D m):=
 ⟨Rk,λ_ _ _ _ h=>PCallM.x (Q4a G N I S T M U h) O⟩
end
open Go.RowKit Go.WideShapes Go.ChangeShapes
def Rd (P:Program) (g:TypeId->Option (List Kd)):List Field->Nat->Option (List Kd)
 |[],_=>some []
 |f::fs,o=>match g f.type with
  |some ks=>bif Nat.beq f.offset o&&Nat.beq (P.cellsOf f.type) ks.length then(Rd P g fs (o+ks.length)).map (ks++ ·)else none
  |none=>none
def Il (P:Program):Nat->TypeId->Option (List Kd)
 |0,_=>none
 |n+1,t=>match P.underlying t with
  |some .bool=>some [.bool]
  |some (.int k)=>some [.int k]
  |some (.slice e)=>(Il P n e).bind λks=>bif Nat.beq (P.cellsOf e) ks.length&&Nat.blt 0 ks.length then some [.sl ks]else none
  |some (.struct fs)=>(Rd P (Il P n) fs.toList 0).bind λks=>bif Nat.beq (P.cellsOf t) ks.length then some ks else none
  |some (.array m e)=>(Il P n e).bind λks=>bif Nat.beq (P.cellsOf e) ks.length&&Nat.beq (P.cellsOf t) (m*ks.length)then some (Q1 ks m)else none
  |_=>none
mutual
def okC:Kd->AC->Prop
 | .int k,a=>k.min<=Af a/\Af a<=k.max
 | .bool,_=>True
 | .sl ks,a=>(Bp a).length<=maxLen/\∀c∈Bp a,okR ks c/\AM ks c=c
 | .raw,_=>True
def okR:List Kd->List AC->Prop
 |[],_=>True
 |_::_,[]=>False
 |k::ks,a::cs=>okC k a/\okR ks cs
end
def Op (w:World) (ks:List Kd) (cs:List Value):Prop:=∃raw,AM ks raw=raw/\CL (CP (λb=>b<w.heap.size) w) raw cs/\okR ks raw
theorem Q5s:∀(D G:List Kd) (I L:List AC),I.length=D.length->AM (D++G) (I++L)=AM D I++AM G L
 |[],G,[],L,_=>rfl
 |k::D,G,a::I,L,h=>by
  simp only[ba];rw[Qsf,Qsf,Q5s D G I L (by simpa using h)];rfl
 |[],_,_::_,_,h=>by simp at h
 |_::_,_,[],_,h=>by simp at h
theorem Q0b:∀{D I:List Kd} {G L:List AC},G.length=D.length->okR D G->okR I L->okR (D++I) (G++L)
 |[],_,[],_,_,_,h=>h
 |k::D,I,a::G,L,M,h,h'=>by
  simp only[ba,okR]at h⊢;exact⟨h.1,Q0b (by simpa using M) h.2 h'⟩
 |[],_,_::_,_,h,_,_=>by simp at h
 |_::_,_,[],_,h,_,_=>by simp at h
theorem Op.append {w:World} {D G:List Kd} {I L:List Value} (h:Op w D I) (h':Op w G L):Op w (D++G) (I++L):=by
 obtain⟨M,a1,a2,a3⟩:=h;obtain⟨O,b1,b2,b3⟩:=h';have N:M.length=D.length:=by rw[<-a1,TK]
 exact⟨M++O,by rw[Q5s _ _ _ _ N,a1,b1],a2.append b2,Q0b N a3 b3⟩
theorem Op.nil {w:World}:Op w [] []:=⟨[],rfl,trivial,by simp[okR]⟩
section
variable {H:Type} {enc:TypeId×Value->H} {P:Program} {w:World}
theorem Q36 {g:TypeId->Option (List Kd)} {m:Nat} (O:∀(t:TypeId) (ks:List Kd) (cs:List Value) (x:DataW H×List MemPlace),g t=some ks->DataW.trod enc P w 0 (λ_=>true) true m t cs=some x->Op w ks cs):
  ∀(fs:List Field) (o:Nat) (ks:List Kd) (cs:List Value),Rd P g fs o=some ks->cs.length=o+ks.length->
   (∀f∈fs,∃x,DataW.trod enc P w 0 (λ_=>true) true m f.type ((cs.drop f.offset).take (P.cellsOf f.type))=some x)->Op w ks (cs.drop o)
 |[],o,ks,cs,h,I,_=>by
  simp[Rd]at h;subst h;have:cs.drop o=[]:=by apply j8;simp at I;omega
  rw[this];exact Op.nil
 |f::fs,o,ks,cs,h,I,S=>by
  simp only[Rd]at h;split at h
  ·rename_i D L;cases G:(Nat.beq f.offset o&&Nat.beq (P.cellsOf f.type) D.length)<;>rw[G]at h
   ·simp at h
   ·simp only[ah,bh]at h;obtain⟨U,V,rfl⟩:=h;simp only[ak]at G;have e1:f.offset=o:=ac G.1;have e2:P.cellsOf f.type=D.length:=ac G.2;obtain⟨x,M⟩:=S f (by simp);have T:=O _ _ _ _ L M;rw[e1,e2]at T;have X:=Q36 O fs (o+D.length) U cs V (by simp at I;omega) (λY N=>S Y (by simp[N]));have:cs.drop o=(cs.drop o).take D.length++cs.drop (o+D.length):=by
     rw[<-ji,List.take_append_drop]
    rw[this];exact T.append X
  ·cases h
theorem Qxm {ks:List Kd}:∀(m:Nat) (cs:List Value),cs.length=m*ks.length->(∀i,i<m->Op w ks ((cs.drop (i*ks.length)).take ks.length))->Op w (Q1 ks m) cs
 |0,cs,D,_=>by
  have:cs=[]:=by simpa using D
  subst this;exact Op.nil
 |m+1,cs,D,h=>by
  have G:=h 0 (by omega);simp at G;have:cs=cs.take ks.length++cs.drop ks.length:=(List.take_append_drop _ _).symm;rw[this,Q1];refine G.append (Qxm m _ ?_ λi I=> ?_)
  ·simp[D,f6]
  ·have:=h (i+1) (by omega);rw[ji];rw[f6,jy]at this;exact this
theorem Zwy {ks:List Kd} {cs:List Value} {e t:TypeId} {fuel:Nat} {x:DataW H×List MemPlace} (hu:P.underlying t=some (.slice e)) (e1:P.cellsOf e=ks.length) (e2:0<ks.length)
  (hx:DataW.trod enc P w 0 (λ_=>true) true fuel t cs=some x) (ih:∀(m:Nat) (cs:List Value) (x:DataW H×List MemPlace),DataW.trod enc P w 0 (λ_=>true) true m e cs=some x->Op w ks cs):Op w [.sl ks] cs:=by
 rcases Go.Deep.open_slice hu hx with⟨rfl,_⟩|⟨a,len,cap,m,n,D,Pl,rfl,_,hl,a9,hm,_,hi⟩
 ·refine⟨[.vC ks []],rfl,⟨Uq ks,trivial⟩,?_⟩;simp[okR,okC,Bp]
 ·have a1:m=cap:=by simpa using hm
  subst a1
  have hex:∀i,∃(S:List Value) (raw:List AC),i<len->(w.cells? 0 (a.add (i*P.cellsOf e)) (P.cellsOf e)=some S/\AM ks raw=raw/\CL (CP (λb=>b<w.heap.size) w) raw S/\okR ks raw):=λi=>by
   by_cases L:i<len
   ·obtain⟨V,N,X⟩:=hi i (by omega);obtain⟨raw,r1,r2,r3⟩:=ih n V _ X;exact⟨V,raw,λ_=>⟨N,r1,r2,r3⟩⟩
   ·exact⟨[],[],λh=>(L h).elim⟩
  let S:Nat->List Value:=λi=>Classical.choose (hex i)
  let G:Nat->List AC:=λi=>Classical.choose (ef (hex i))
  have M:∀i,i<len->(w.cells? 0 (a.add (i*P.cellsOf e)) (P.cellsOf e)=some (S i)/\AM ks (G i)=G i/\CL (CP (λb=>b<w.heap.size) w) (G i) (S i)/\okR ks (G i)):=λi=>ef (ef (hex i));have hlen:((List.range len).map G).length=len:=by simp
  have Y:∀i (hi:i<((List.range len).map G).length),((List.range len).map G)[i]=G i:=λi hi=>by simp
  have O:∀c∈(List.range len).map G,∃i,i<len/\c=G i:=λc U=>by
   simp only[av,List.mem_range]at U;obtain⟨i,N,X⟩:=U;exact⟨i,N,X.symm⟩
  refine⟨[.vC ks ((List.range len).map G)],rfl,⟨?_,trivial⟩,?_⟩
  ·rw[CP];refine⟨some a,m,by rw[hlen],by rw[hlen];exact hl,λc U=> ?_,?_⟩
   ·obtain⟨i,N,rfl⟩:=O c U;exact(M i N).2.1
   ·by_cases h0:len=0
    ·subst h0;exact .inl rfl
    ·right;have h0:0<len:=by omega
     obtain⟨a2,r1,r2,_⟩:=M 0 h0;obtain⟨_,a3,a0⟩:=World.cells?_some a2;have I:=a0 0 (by omega);simp only[gz]at I;have ea:(a.add 0).add 0=a:=by simp[Addr.add]
     rw[ea,am (by omega)]at I;have T:a.spot=none/\a.block<w.heap.size:=by
      unfold World.cell? at I;split at I
      ·rename_i hb;split at I
       ·cases I
       ·rename_i a4;refine⟨by simpa using a4,(bt.1 hb).1⟩
      ·cases I
     obtain⟨b,o,sp⟩:=a;obtain⟨rfl,hb⟩:=T;refine⟨b,o,rfl,hb,S_ λi L=> ?_⟩;rw[Y i L];rw[hlen]at L;obtain⟨a5,a6,a7,_⟩:=M i L;obtain⟨_,hle,a8⟩:=World.cells?_some a5;refine⟨by rw[<-a6];exact TK _ _,V0 _ (S i) b _ a7 λj y hj=> ?_⟩;have b0:j<(S i).length:=(fa.1 hj).1;have:=a8 j (by omega);rw[<-hj,<-this,e1];congr 1;unfold Addr.add;by_cases N:i*ks.length=0<;>by_cases X:j=0<;>simp[N,X,dp]
  ·simp only[okR,okC,Bp,jh];refine⟨by rw[hlen];omega,λc U=> ?_⟩;obtain⟨i,N,rfl⟩:=O c U;exact⟨(M i N).2.2.2,(M i N).2.1⟩
theorem Q2:∀(n:Nat) (m:Nat) (t:TypeId) (ks:List Kd) (cs:List Value) (x:DataW H×List MemPlace),Il P n t=some ks->DataW.trod enc P w 0 (λ_=>true) true m t cs=some x->Op w ks cs
 |0,_,_,_,_,_,h,_=>by simp[Il]at h
 |n+1,m,t,ks,cs,x,h,M=>by
  unfold Il at h;split at h
  ·rename_i L;simp at h;subst h;obtain⟨b,rfl,_⟩:=DataW.trod_bool L M;exact⟨[.bool b],rfl,⟨Que _,trivial⟩,by simp[okR,okC]⟩
  ·rename_i k L;simp at h;subst h;obtain⟨i,rfl,_,X⟩:=DataW.trod_int L M;exact⟨[.int k i],rfl,⟨Gz _ _,trivial⟩,by simpa [okR,okC,Af,Lit.wf]using X⟩
  ·rename_i e L;simp only[bv]at h;obtain⟨I,N,D⟩:=h;cases G:(Nat.beq (P.cellsOf e) I.length&&Nat.blt 0 I.length)<;>rw[G]at D
   ·simp at D
   ·simp at D;subst D;simp only[ak]at G;have e1:=ac G.1;have e2:0<I.length:=by have:=G.2;simp[Nat.blt]at this;omega
    exact Zwy L e1 e2 M λm cs x=>Q2 n m e I cs x N
  ·rename_i fs L;obtain⟨xs,S,rfl,_,hlen,T,hf⟩:=DataW.trod_struct L M;simp only[bv]at h;obtain⟨I,N,D⟩:=h;cases G:Nat.beq (P.cellsOf t) I.length<;>rw[G]at D
   ·simp at D
   ·simp at D;subst D;have e:=ac G;have := Q36 (λt ks cs x => Q2 n S t ks cs x) fs.toList 0 I cs N (by omega) (λf U => by
     obtain⟨i,V⟩:=List.mem_iff_getElem?.1 U;have O:fs[i]? =some f:=by simpa using V
     have:=hf i f O;have Y:i<fs.size:=by
      have:=(bt.1 O).1;exact this
     rw[this,am (by omega)];exact⟨_,rfl⟩)
    simpa using this
  ·rename_i k e L;obtain⟨xs,S,rfl,_,hlen,T,hf⟩:=DataW.trod_array L M;simp only[bv]at h;obtain⟨I,N,D⟩:=h;cases G:(Nat.beq (P.cellsOf e) I.length&&Nat.beq (P.cellsOf t) (k*I.length))<;>rw[G]at D
   ·simp at D
   ·simp at D;subst D;simp only[ak]at G;have e1:=ac G.1;have e2:=ac G.2;refine Qxm k cs (by omega) λi V=> ?_;have:=hf i V;rw[e1]at this;refine Q2 n S e I _ (xs[i]'(by omega)) N ?_;rw[this,am]
  ·cases h
end
structure Ar where
 agg:Bool
 ks:List Kd
 raw:List AC
def Ar.sh (a:Ar):Bool×List Kd:=(a.agg,a.ks)
def Ar.ok (a:Ar):Prop:=okR a.ks a.raw/\AM a.ks a.raw=a.raw
def Ar.tv (a:Ar):TV:= .v a.agg (AM a.ks a.raw)
def shK (P:Program) (t:TypeId):Option (Bool×List Kd):=match P.underlying t with
 |some (.struct _)=>(Il P 8 t).map λks=>(true,ks)
 |some (.array _ _)=>(Il P 8 t).map λks=>(true,ks)
 |some .bool=>some (false,[.bool])
 |some (.int k)=>some (false,[.int k])
 |some (.slice _)=>(Il P 8 t).map λks=>(false,ks)
 |_=>none
section
variable {H:Type} {enc:TypeId×Value->H} {P:Program} {W:World}
theorem Zxo {t:TypeId} {v:Value} {d:DataW H} {p:List MemPlace} {r:Reach} {T:Nat} {sh:Bool×List Kd} (D:shK P t=some sh) (L:Value.okWide P W r T t v)
  (h:DataW.Trod enc P W 0 (λ_=>true) true t v d p):∃a:Ar,a.sh=sh/\a.ok/\∀(ρ:Env),ρ.im=(λb=>b<W.heap.size)->TVR ρ W a.tv v:=by
 have agg:∀(ks:List Kd) (cs:Array Value),Il P 8 t=some ks->v= .agg cs->∃a:Ar,a.sh=(true,ks)/\a.ok/\∀(ρ:Env),ρ.im=(λb=>b<W.heap.size)->TVR ρ W a.tv v:=by
  rintro ks cs I rfl;obtain⟨fuel,hf⟩:=h;obtain⟨raw,M,N,O⟩:=Q2 8 fuel t ks _ _ I hf;refine⟨⟨true,ks,raw⟩,rfl,⟨O,M⟩,λρ S=>⟨cs,rfl,?_⟩⟩;rw[M];exact N.mono λa _ x U=>IM (by rw[S];exact U)
 unfold shK at D;split at D
 ·rename_i fs G;simp only[bh]at D;obtain⟨ks,I,rfl⟩:=D;obtain⟨cs,rfl,_⟩:=okWide_struct G L;exact agg ks cs I rfl
 ·rename_i k e G;simp only[bh]at D;obtain⟨ks,I,rfl⟩:=D;obtain⟨cs,rfl,_⟩:∃cs,v= .agg cs/\cs.size=P.cellsOf t:=by
   simp only[Value.okWide,G]at L;obtain⟨cs,V,X,_⟩:=L;exact⟨cs,V,X⟩
  exact agg ks cs I rfl
 ·rename_i G;simp at D;subst D;obtain⟨n,rfl,_,_⟩:=open_bool G L h;exact⟨⟨false,[.bool],[.bool n]⟩,rfl,⟨by simp[okR,okC],rfl⟩,λρ _=>TVR.mkBool n⟩
 ·rename_i k G;simp at D;subst D;obtain⟨n,rfl,_,_,Y⟩:=open_int G L h;exact⟨⟨false,[.int k],[.int k n]⟩,rfl,⟨by simpa [okR,okC,Af,Lit.wf]using Y,rfl⟩,λρ _=>TVR.mkInt k n⟩
 ·rename_i e G;simp only[bh]at D;obtain⟨ks,I,rfl⟩:=D;obtain⟨a0,len,cap,rfl⟩:=okWide_slice G L;obtain⟨fuel,hf⟩:=h;obtain⟨raw,M,N,O⟩:=Q2 8 fuel t ks _ _ I hf;have hl:raw.length=1:=by rw[N.length];simp[Value.cells]
  match raw,hl with
  |[a],_=>
   refine⟨⟨false,ks,[a]⟩,rfl,⟨O,M⟩,λρ S=>⟨a,M,?_⟩⟩;have:=N.1;exact IM (by rw[S];simpa [Value.cells]using this)
 ·cases D
theorem Q00 {r:Reach} {b0:Nat}:∀(L:List TypeId) (G:List Value) (O:List (DataW H)) (p:List MemPlace) (D:List (Bool×List Kd)),L.map (shK P)=D.map some->
  (∀(j:Nat) (t:TypeId) (v:Value),L[j]? =some t->G[j]? =some v->Value.okWide P W r b0 t v)->DataW.TrodAll enc P W 0 (λ_=>true) true L G O p->
  ∃as:List Ar,as.map Ar.sh=D/\(∀a∈as,a.ok)/\G.length=as.length/\∀(i:Nat) (a:Ar) (x:Value),as[i]? =some a->G[i]? =some x->∀(ρ:Env),ρ.im=(λb=>b<W.heap.size)->TVR ρ W a.tv x
 |[],G,O,p,D,I,_,h=>by
  obtain⟨rfl,rfl,rfl⟩:=trodAll_nil h;cases D with
  |nil=>exact⟨[],rfl,by simp,rfl,by simp⟩
  |cons=>simp at I
 |t::L,G,O,p,D,I,Y,h=>by
  obtain⟨v,S,d,T,a,b,rfl,rfl,rfl,M,N⟩:=trodAll_cons h;cases D with
  |nil=>simp at I
  |cons sh D=>
   simp only[bc,ed]at I;obtain⟨as,e1,e2,e3,e4⟩:=Q00 L S T b D I.2 (λj t v ht U=>Y (j+1) t v (by simpa using ht) (by simpa using U)) N;obtain⟨a,ha,V,hp⟩:=Zxo I.1 (Y 0 t v rfl rfl) M;refine⟨a::as,by simp[ha,e1],?_,by simp[e3],?_⟩
   ·intro x X;rcases ay.1 X with rfl|X
    ·exact V
    ·exact e2 x X
   ·intro i a' x M N;cases i with
    |zero=>simp at M N;subst M;subst N;exact hp
    |succ i=>exact e4 i a' x (by simpa using M) (by simpa using N)
theorem Q2p (T:laidOutB P=true) {U:World} (hb:Below W.heap.size W U) {V:Nat->Bool}:∀(G:List TypeId) (L:List Value) (M:List (DataW H)) (p:List MemPlace),
  G.all (λt=>P.readableRec t&&decide (t<P.types.size))=true->(∀x∈p,x.block<W.heap.size/\V x.block=true)->DataW.TrodAll enc P W 0 (λ_=>true) true G L M p->
  DataW.TrodAll enc P U 0 V true G L M p
 |[],L,M,p,_,_,h=>by
  obtain⟨rfl,rfl,rfl⟩:=trodAll_nil h;exact rfl
 |t::G,L,M,p,N,D,h=>by
  obtain⟨v,O,d,S,a,b,rfl,rfl,rfl,X,Y⟩:=trodAll_cons h;simp only[List.all_cons,ak,co]at N;refine⟨a,b,WideElems.Trod_stays T N.1.1 N.1.2 X (λx I=>hb.same (D x (by simp[I])).1) (λx I=>(D x (by simp[I])).2),?_,rfl⟩;exact Q2p T hb G O S b N.2 (λx I=>D x (by simp[I])) Y
theorem Zph {f:Func} {s:ChangeSpec} {apart fresh handsOn again:Bool} {W O:World} {args:Array Value} {v:Value} {S T:List (DataW H)} {before pa pv:List MemPlace}
  (X:DataW.Whole enc P f.params.toList s.vars apart W args.toList S T before)
  (M:∀(b:Nat) (N:Nat->Bool) (hd:Bool),DataW.TrodAll enc P O b N hd f.resultTypes.toList (v.resultList f.resultTypes.size) (s.fn H (S++T)).results [])
  (D:∀N:Nat->Bool,(∀p∈before,N p.block=true)->DataW.TrodAll enc P O 0 N true f.params.toList args.toList (s.fn H (S++T)).args pa)
  (G:∀N:Nat->Bool,(∀p∈before,N p.block=true)->DataW.TrodVars enc P O N s.vars (s.fn H (S++T)).vars pv)
  (L:before=pa++pv) (hb:Below W.heap.size W O)
  (Y:∀(j:Nat) (t:TypeId) (r:Value),f.resultTypes[j]? =some t->(v.resultList f.resultTypes.size)[j]? =some r->Value.okWide P O .any 0 t r):
  s.post enc P f apart fresh handsOn again W args v O:=by
 have U:∀p∈before,p.block<W.heap.size:=λp I=>X.lt p I;have hold:∀p∈before,(λb=>decide (b<W.heap.size)) p.block=true:=λp I=>by simpa using U p I
 refine⟨S,T,before,[],pa,pv,X,M _ _ _,D _ hold,G _ hold,World.keptBut_mono (λp I=>⟨I,?_⟩) (hb.frame (· ∈before)),λ_=> ?_⟩
 ·rw[L,bj]at I;exact Or.inr I
 ·obtain⟨_,_,_,_,_,hz,hn⟩:=X;refine⟨Y,_,_,([]++pa)++pv,⟨[]++pa,pv,trodAll_append (D _ (λ_ _=>rfl)) (M _ _ _),G _ (λ_ _=>rfl),rfl,?_,?_⟩,?_⟩
  ·intro b off I;have V:MemPlace.cell b off∈before:=by rw[L];simpa using I
   rw[hb.frozen (U _ V)];exact hz b off V
  ·intro ha;have:=hn ha;rw[L]at this;simpa using this
  ·intro p I _;rw[L];simpa using I
theorem Z7c {f:FuncId} {O:Func} {s:ChangeSpec} {apart fresh handsOn again:Bool} {tb:TypeId} {shs:List (Bool×List Kd)} {args:Array Value} {M gs:List (DataW H)} {before:List MemPlace} {base:Nat}
  (G:s.vars=[]) (hl:laidOutB P=true) (a0:O.resultTypes= #[tb]) (a1:P.underlying tb=some .bool)
  (S:O.params.toList.all (λt=>P.readableRec t&&decide (t<P.types.size))=true) (a8:O.params.toList.map (shK P)=shs.map some)
  (T:∀l:List (DataW H),l.length=shs.length->s.fn H l={results:=[.lit (.bool true)],args:=l})
  (a2:∀as:List Ar,as.map Ar.sh=shs->(∀a∈as,a.ok)->PCallM P f (as.map Ar.tv) ⟨[],[]⟩ (.v false [.bool true]) ⟨[],[]⟩)
  (a3:∀(j:Nat) (t:TypeId) (v:Value),O.params[j]? =some t->args[j]? =some v->Value.okWide P W .any base t v)
  (hW:DataW.Whole enc P O.params.toList s.vars apart W args.toList M gs before) (hG:Gt (λb=>b<W.heap.size) W):
  Calls P f args W λe W'=>∃v,e= .returned v/\s.post enc P O apart fresh handsOn again W args v W':=by
 have a4:=hW;obtain⟨p,q,hA,hV,rfl,b2,b3⟩:=hW;rw[G]at hV;obtain⟨rfl,rfl⟩:=trodVars_none hV;have a9:∀x∈p++[],x.block<W.heap.size:=λx hx=>a4.lt x hx;obtain⟨as,e1,e2,e3,e4⟩:=Q00 (r:= .any) (b0:=base) O.params.toList args.toList M p shs a8 (λj t v ht hv=>a3 j t v (by simpa using ht) (by simpa using hv)) hA;have b1:M.length=shs.length:=by
  have:∀(ts:List TypeId) (vs:List Value) (M:List (DataW H)) (p:List MemPlace),DataW.TrodAll enc P W 0 (λ_=>true) true ts vs M p->M.length=vs.length:=by
   intro ts;induction ts with
   |nil=>intro vs M p h;obtain⟨rfl,rfl,rfl⟩:=trodAll_nil h;rfl
   |cons t ts ih=>
    intro vs M p h;obtain⟨v,b4,d,b5,a,b,rfl,rfl,rfl,h1,h2⟩:=trodAll_cons h;simp[ih _ _ _ h2]
  rw[this _ _ _ _ hA,e3,<-e1,ag]
 have U:=T (M++[]) (by simpa using b1);have a5:RelE (Eh (λb=>b<W.heap.size) W ⟨λ_=>0,λ_=> .slice none 0 0,λ_=>0,λb=>b<W.heap.size⟩ [] hG) (as.map Ar.tv) [] [] ⟨λ_=>0,λ_=> .slice none 0 0,λ_=>0,λb=>b<W.heap.size⟩ args.toList.toArray W:=by
  refine⟨by simpa using e3.symm,λi v hi=> ?_,λv hv=> ?_,λk b D=>by simp[Ab]at D,λk b D=>by simp[Ab]at D,λk k' b b' D=>by simp[Ab]at D,λid r S=>by simp[Ab]at S,
   λid id' r r' g S=>by simp[Ab]at S,λk b id r D=>by simp[Ab]at D,λb hb=>⟨hb,λk bo D=>by simp[Ab]at D,λid r S=>by simp[Ab]at S⟩,Fr.refl _ _,λ_ h=>h,λ_ h=>h,λb h=> .inl h,λk b D=>by simp[Eh,Ab]at D⟩
  ·simp only[dy,bh]at hi;obtain⟨a,V,rfl⟩:=hi;have N:i<args.toList.length:=by rw[e3];exact(fa.1 V).1
   have a6:i<args.size:=by simpa using N
   have e:args.toList.toArray.getD i undef=args.toList[i]:=by simp[Array.getD,a6]
   rw[e];exact e4 i a _ V (am N) _ rfl
  ·simp only[av]at hv;obtain⟨a,V,rfl⟩:=hv;intro c L;obtain⟨i,hi⟩:=List.getElem?_of_mem V;have N:i<args.toList.length:=by rw[e3];exact(fa.1 hi).1
   have b6:=e4 i a _ hi (am N) ⟨λ_=>0,λ_=> .slice none 0 0,λ_=>0,λb=>b<W.heap.size⟩ rfl;have X:∀(ks:List Kd) (cs:List AC) (j:Nat),∀c∈Ey ks cs j,AC.calm c=true:=by
    intro ks;induction ks with
    |nil=>intro cs j c L;simp[Ey]at L
    |cons k ks ih=>
     intro cs j c L;simp only[Ey,ay]at L;rcases L with rfl|L
     ·cases k<;>try rfl
      generalize nth AC.vD cs j=b;cases b<;>rfl
     ·exact ih cs _ c L
   have:=X a.ks a.raw 0 c L;cases c<;>first|trivial|(simp[AC.calm]at this)
 have I:=a2 as e1 e2 _ args.toList a5;have Y:args.toList.toArray=args:=by simp
 rw[Y]at I;refine I.mono ?_;rintro e W' ⟨x,ρ',rfl,hR⟩;have hb:Below W.heap.size W W':=⟨hR.fr.os,hR.fr.tape,hR.fr.output,hR.fr.size,λk D=>hR.fr.block k D⟩;have hx:x= .bool true:=by
  have:TVR ρ' W' (.c (.bool true)) x:=by simpa using hR.tv 0 _ rfl
  obtain⟨a,V,L⟩:=this;simp at V;subst V;simpa [CC,CP]using L
 subst hx;refine⟨_,rfl,Zph (pa:=p) (pv:=[]) a4 ?_ ?_ ?_ rfl hb (ok_one a0 rfl (okWide_bool_mk a1 true))⟩
 ·intro b sp hd;rw[U,a0];exact trodAll_mk1 (shut_bool a1 true)
 ·intro sp a7;rw[U];simp only[gw];exact Q2p hl hb _ _ _ _ S (λx hx=>⟨a9 x (by simp[hx]),a7 x (by simp[hx])⟩) hA
 ·intro sp a7;rw[U,G];exact rfl
end
theorem SF:∀{l:List (Nat×Spec)} {k:Nat} {b:Spec},G6 l k=some b->(k,b)∈l
 |[],_,_,h=>by simp[G6]at h
 |(j,c)::l,k,b,h=>by
  simp only[G6]at h;cases hb:Nat.beq j k<;>rw[hb]at h
  ·simp only[aq]at h;exact jo _ (SF h)
  ·simp at h;subst h;rw[ac hb];simp
def In (P:Program) (f:FuncId):Bool:=match P.funcs[f]? with
 |some fn=> !(fn.name== "runtime.NumGoroutine")&&fn.body.isSome
 |none=>false
theorem Kx {P:Program} {f:FuncId} (h:In P f=true):QC P f:=by
 unfold In at h;split at h
 ·rename_i D hf;simp only[ak,jg]at h;exact⟨D,hf,h.1,by cases hb:D.body<;>simp_all⟩
 ·cases h
def Al (P:Program) (p:Nat×Spec):Prop:=SpecRight P p.1 p.2
def AllOK (P:Program):List (Nat×Spec)->Prop
 |[]=>True
 |p::l=>Al P p/\AllOK P l
theorem AllOK.mem {P:Program}:∀{l:List (Nat×Spec)},AllOK P l->∀p∈l,Al P p
 |_::l,h,p,D=>by
  rcases ay.1 D with rfl|D
  ·exact h.1
  ·exact AllOK.mem h.2 p D
theorem Ao {P:Program} {C:Cfg} {l:List (Nat×Spec)} (L:C.spec=G6 l) (h:AllOK P l) (D:C.ro=λ_=>false:=by rfl) (G:C.keepR=λ_=>false:=by rfl):Aj P C:=by
 refine⟨λf g I=> ?_,λf g _ h=> ?_,λf g _ h=>(by rw[G]at h;cases h)⟩
 ·rw[L]at I;exact h.mem _ (SF I)
 ·rw[D]at h;cases h
def AllRo (rs:List Nat):List (Nat×Spec)->Prop
 |[]=>True
 |p::l=>(AN rs p.1=false\/UC p.2)/\AllRo rs l
theorem AllRo.mem {rs:List Nat}:∀{l:List (Nat×Spec)},AllRo rs l->∀p∈l,AN rs p.1=false\/UC p.2
 |_::l,h,p,D=>by
  rcases ay.1 D with rfl|D
  ·exact h.1
  ·exact AllRo.mem h.2 p D
abbrev V:=IntKind.wrap .i64
theorem GJ {P:Program} {C:Cfg} {l:List (Nat×Spec)} {rs:List Nat} (M:C.spec=G6 l) (h:AllOK P l) (G:C.ro=λf=>AN rs f) (N:AllRo rs l) (I:C.keepR=λ_=>false:=by rfl):Aj P C:=by
 refine⟨λf g D=> ?_,λf g D L=> ?_,λf g _ h=>(by rw[I]at h;cases h)⟩
 ·rw[M]at D;exact h.mem _ (SF D)
 ·rw[M]at D;rw[G]at L;rcases N.mem _ (SF D)with h|h
  ·dsimp only at h L;rw[L]at h;cases h
  ·exact h
theorem Ae {x:Int} (h: -9223372036854775808<=x/\x<=9223372036854775807:=by omega):V x=x:=by
 simp[V,IntKind.wrap,IntKind.signed,IntKind.bits];omega
section loops
variable {step:List AC->Option (Nat×List AC)}
theorem Qs9:∀{n:Nat} {vars:List AC} {o:Nat×List AC},CA step n vars=some o->CA step (n+1) vars=some o
 |0,_,_,h=>by simp[CA]at h
 |n+1,vars,o,h=>by
  rw[CA]at h⊢;simp only[bv]at h⊢;obtain⟨q,I,D⟩:=h;refine⟨q,I,?_⟩;split at D
  ·rename_i G;rw[aa G];exact Qs9 D
  ·rename_i G;rw[ab G];exact D
theorem Q5f {n m:Nat} {vars:List AC} {o:Nat×List AC} (D:n<=m) (h:CA step n vars=some o):CA step m vars=some o:=by
 induction D with
 |refl=>exact h
 |step _ G=>exact Qs9 G
theorem Zxb {n m:Nat} {vars:List AC} {o D:Nat×List AC} (h:CA step n vars=some o) (h':CA step m vars=some D):o=D:=by
 have I:=Q5f (Nat.le_max_left n m) h;have G:=Q5f (Nat.le_max_right n m) h';rw[I]at G;simpa using G
open Classical in
noncomputable def Am (step:List AC->Option (Nat×List AC)) (vars:List AC):Option (Nat×List AC):=
 if h:∃n o,CA step n vars=some o then CA step (Classical.choose h) vars else none
theorem P2 {vars:List AC} {o:Nat×List AC} (h:Am step vars=some o):∃n,CA step n vars=some o:=by
 unfold Am at h;split at h
 ·exact⟨_,h⟩
 ·simp at h
theorem Qqq {n:Nat} {vars:List AC} {o:Nat×List AC} (h:CA step n vars=some o):Am step vars=some o:=by
 unfold Am;have G:∃n o,CA step n vars=some o:=⟨n,o,h⟩;rw[jl G];obtain⟨I,D⟩:=ef G;rw[D,Zxb h D]
theorem QI (vars:List AC):Am step vars=(step vars).bind λo=>if o.1=0 then Am step o.2 else some o:=by
 cases L:step vars with
 |none=>
  cases G:Am step vars with
  |none=>rfl
  |some o=>
   obtain⟨n,D⟩:=P2 G;cases n with
   |zero=>simp[CA]at D
   |succ n=>simp[CA,L]at D
 |some q=>
  simp only[af];by_cases I:q.1=0
  ·rw[aa I];cases G:Am step q.2 with
   |none=>
    cases M:Am step vars with
    |none=>rfl
    |some o=>
     obtain⟨n,D⟩:=P2 M;cases n with
     |zero=>simp[CA]at D
     |succ n=>
      simp only[CA,L,af,aa I]at D;rw[Qqq D]at G;cases G
   |some o=>
    obtain⟨n,D⟩:=P2 G;exact Qqq (n:=n+1) (by simp only[CA,L,af,aa I];exact D)
  ·rw[ab I];exact Qqq (n:=1) (by simp only[CA,L,af,ab I])
end loops
theorem Kh:∀(c:Code) (b blk:Nat) (body:Code),(blk,body)∈A4 c b->(∀p∈A4 body blk,p∈A4 c b)/\(∀p∈Ck body,p∈Ck c)/\(∀p∈Bz body blk,p∈Bz c b)
 | .seq x y,b,blk,body,h=>by
  simp only[A4,bj]at h;rcases h with h|h
  ·obtain⟨G,I,L⟩:=Kh x b blk body h;exact⟨λp D=>by simp[A4,G p D],λp D=>by simp[Ck,I p D],λp D=>by simp[Bz,L p D]⟩
  ·obtain⟨G,I,L⟩:=Kh y b blk body h;exact⟨λp D=>by simp[A4,G p D],λp D=>by simp[Ck,I p D],λp D=>by simp[Bz,L p D]⟩
 | .cond c x y,b,blk,body,h=>by
  simp only[A4,bj]at h;rcases h with h|h
  ·obtain⟨G,I,L⟩:=Kh x b blk body h;exact⟨λp D=>by simp[A4,G p D],λp D=>by simp[Ck,I p D],λp D=>by cases c<;>simp[Bz,L p D]⟩
  ·obtain⟨G,I,L⟩:=Kh y b blk body h;exact⟨λp D=>by simp[A4,G p D],λp D=>by simp[Ck,I p D],λp D=>by cases c<;>simp[Bz,L p D]⟩
 | .block id x,b,blk,body,h=>by
  simp only[A4]at h;obtain⟨G,I,L⟩:=Kh x b blk body h;exact⟨λp D=>by simp[A4,G p D],λp D=>by simp[Ck,I p D],λp D=>by simp[Bz,L p D]⟩
 | .loop x,b,blk,body,h=>by
  simp only[A4,ay,cg]at h;rcases h with⟨rfl,rfl⟩|h
  ·exact⟨λp D=>by rw[IW _ _ b]at D;simp[A4,D],λp D=>by simp[Ck,D],λp D=>by rw[Jz _ _ b]at D;simp[Bz,D]⟩
  ·obtain⟨G,I,L⟩:=Kh x b blk body h;exact⟨λp D=>by simp[A4,G p D],λp D=>by simp[Ck,I p D],λp D=>by simp[Bz,L p D]⟩
 | .skip,_,_,_,h=>by simp[A4]at h
 | .region _ _ _,_,_,_,h=>by simp[A4]at h
 | .exit _,_,_,_,h=>by simp[A4]at h
 | .ret,_,_,_,h=>by simp[A4]at h
 | .rangeFunc _ _ _ _,_,_,_,h=>by simp[A4]at h
 | .scope x,b,blk,body,h=>by
  simp only[A4]at h;obtain⟨G,I,L⟩:=Kh x b blk body h;exact⟨λp D=>by simp[A4,G p D],λp D=>by simp[Ck,I p D],λp D=>by simp[Bz,L p D]⟩
 | .label _,_,_,_,h=>by simp[A4]at h
 | .goto _,_,_,_,h=>by simp[A4]at h
 | .refuse _,_,_,_,h=>by simp[A4]at h
structure FnOK (P : Program) (C : Cfg) (f : FuncId) : Prop where
 l:∀p∈I9 P f,∀sk g,C.loops p.1=some (sk,g)->KQ P (.loop p.2) sk g
 b:∀p∈Zi P f,∀sk g,C.blocks p.1=some (sk,g)->KQ P (.block p.1 p.2) sk g
 c:∀p∈VP P f,∀sk g,C.conds p.1=some (sk,g)->KQ P (.cond (.tmp p.1) p.2.2.1 p.2.2.2) sk g
theorem FnOK.bare {P:Program} {C:Cfg} {f:FuncId} (D:C.loops=λ_=>none) (G:C.blocks=λ_=>none) (I:C.conds=λ_=>none):FnOK P C f:=
 ⟨λp _ sk g h=>by simp[D]at h,λp _ sk g h=>by simp[G]at h,λp _ sk g h=>by simp[I]at h⟩
theorem FnOK.sub {P:Program} {C:Cfg} {f:FuncId} (h:FnOK P C f) {c:Code} (G:Jc P f=some c):SubOK P C c 0:=
 ⟨λp D=>h.l p (by unfold I9;rw[G];exact D),λp D=>h.b p (by unfold Zi;rw[G];exact D),λp D=>h.c p (by unfold VP;rw[G];exact D)⟩
theorem Z3g {P:Program} {f blk:Nat} {c:Code} (h:Ab (I9 P f) blk=some c):AK P f blk=c:=by unfold AK;rw[h]
theorem Qon {α:Type}:∀{l:List (Nat×α)} {k:Nat} {b:α},BH (l.map (·.1))=true->(k,b)∈l->Ab l k=some b
 |[],_,_,_,h=>by simp at h
 |(j,c)::l,k,b,G,h=>by
  have D:=IJ.1 G;simp only[bc,jq]at D;simp only[Ab];rcases ay.1 h with h|h
  ·simp at h;obtain⟨rfl,rfl⟩:=h;simp
  ·have:j≠k:=by rintro rfl;exact D.1 (av.2 ⟨(j,b),h,rfl⟩)
   rw[Kl this];exact Qon (IJ.2 D.2) h
theorem FnOK.subLoop {P:Program} {C:Cfg} {f:FuncId} (h:FnOK P C f) {blk:Nat} {body:Code} (G:(blk,body)∈I9 P f):SubOK P C body blk:=by
 unfold I9 at G;split at G
 ·rename_i c I;obtain⟨L,M,N⟩:=Kh c 0 blk body G;exact⟨λp D=>h.l p (by unfold I9;rw[I];exact L p D),λp D=>h.b p (by unfold Zi;rw[I];exact M p D),λp D=>h.c p (by unfold VP;rw[I];exact N p D)⟩
 ·simp at G
theorem FnOK.loop {P:Program} {C:Cfg} {f:FuncId} (h:FnOK P C f) (G:Aj P C) (O:∀t∈C.eqOk,P.stoodInHeld t=false) (M:P.follows .mixedOrders=true) {L blk:Nat} {sk:Sk} {D:List (Ex×Sk)}
  (V:BH ((I9 P f).map (·.1))=true) (S:sk.okB=true):FnOK P (C.loop blk sk D (Am (AL P C L blk (AK P f blk) sk D))) f:=by
 refine⟨λp T U g N=> ?_,h.b,h.c⟩;simp only[Cfg.loop]at N;cases hb:Nat.beq p.1 blk<;>rw[hb]at N
 ·exact h.l p T U g N
 ·have e:=ac hb;subst e;simp only[ah,an,cg]at N;obtain⟨rfl,rfl⟩:=N;have I:=Z3g (Qon (k:=p.1) (b:=p.2) V T);rw[I];exact Zyo G O M S (h.subLoop T) λvars o X=>P2 X
theorem Qpy {P:Program} {C:Cfg} {f:FuncId} {L:Nat} {sig D:Sk} (O:In P f=true) (h:FnOK P C f) (G:Aj P C) (N:∀t∈C.eqOk,P.stoodInHeld t=false) (M:P.follows .mixedOrders=true)
  (S:sig.okB=true) (T:D.okB=true):Al P (f,Ad sig D (An P C L f sig D)):=
 Ztk G N M (Kx O) S T (λ_ I=>h.sub I) λ_ _ U=>U
theorem Yek {P:Program} {C:Cfg} {f:FuncId} {L:Nat} {sig D:Sk} (_:In P f=true) (h:FnOK P C f) (G:Aj P C) (O:∀t∈C.eqOk,P.stoodInHeld t=false) (M:P.follows .mixedOrders=true)
  (S:sig.okB=true) (T:D.okB=true) (args:List TV) (v:TV) (mem':Mem) (N:(Ad sig D (An P C L f sig D) (TV×Mem) args ⟨[],[]⟩ λv m=>some (v,m))=some (v,mem')):PCallM P f args ⟨[],[]⟩ v mem':=
 Q4a G O M S T (λ_ I=>h.sub I) (λ_ _ U=>U) N
theorem Z9z {P:Program} {f:FuncId} {sig D:Sk}:Al P (f,Ad sig D λ_=>none):=by
 refine⟨Rk,λargs mem v mem' h=> ?_⟩;obtain⟨aB,aC⟩:=mem;simp only[Ad]at h;obtain⟨_,h⟩:=Bx h;split at h
 ·simp at h
 ·simp at h
section
variable {H α:Type}
end
theorem KB {l:List Ar} {s:Bool×List Kd} {D:List (Bool×List Kd)} (h:l.map Ar.sh=s::D):∃a G,l=a::G/\a.agg=s.1/\a.ks=s.2/\G.map Ar.sh=D:=by
 cases l with
 |nil=>simp at h
 |cons a G=>
  simp only[bc,ed]at h;refine⟨a,G,rfl,?_,?_,h.2⟩
  ·rw[<-h.1];rfl
  ·rw[<-h.1];rfl
theorem Ztm {l:List Ar} (h:l.map Ar.sh=[]):l=[]:=by
 cases l with
 |nil=>rfl
 |cons a D=>simp at h
open Go.RowKit
section
variable {P:Program} {C:Cfg} {w:World} {Z:Base} {R:Type}
def Z1w (Z:Base) (K:Ex->St->Option R) (r:R) (d:List Deferred) (G:Value):Exit->Act->World->Prop:=
 λe a w=>∃D s,PO D=e/\K D s=some r/\Rel Z s a.tmps w/\a.defers=d/\a.tmps.getD 0 undef=G
def Zzw (P:Program) (c:Code) (sk:Sk) (g:IT):Prop:=
 ∀(Z:Base) (_:InZ Z) (a:Act) (w:World) (vars:List AC) (R:Type) (K:Ex->St->Option R) (r:R),Rel Z (AA sk vars) a.tmps w->g R vars K=some r->c.wp P (Z1w Z K r a.defers (a.tmps.getD 0 undef)) a w
structure KeepOK (P : Program) (C : Cfg) (c : Code) : Prop where
 l:∀p∈A4 c 0,∃sk g,C.loops p.1=some (sk,g)/\Zzw P (.loop p.2) sk g
 b:C.blocks=λ_=>none
 c:C.conds=λ_=>none
end
theorem Zwd {rl:Nat->Nat} {c:CS} {a:AC} {v:List AC} (he:Wf c a=true) (h:HQ c a=some v) {l:List AC} {i:Nat} (D:Seg l i v):DF rl l c i=(a,i+v.length):=by
 cases c<;>cases a<;>simp only[Wf]at he<;>try (simp at he;done)
 case int.int k k' n=>
  simp only[HQ,he,ah,an]at h;subst h;simp only[DF,D.one,Af,Pr he,bf,cv]
 case bool.bool b=>
  simp only[HQ,an]at h;subst h;simp only[DF,D.one,Df,bf,cv]
 case sl.vC ks G q=>
  simp only[HQ,he,ah,an]at h;subst h;simp only[DF,D.one,Bp,IN he,bf,cv]
 case ptr.ptr k o k' I=>
  simp only[HQ,he,ah,an]at h;subst h;simp only[ak]at he;simp only[DF,ac he.1,ac he.2,cv,jx]
theorem Q8a {rl:Nat->Nat} {l:List AC}:∀{cs:List CS} {as:List AC} {v:List AC},OZ cs as=true->GA cs as=some v->∀{i},Seg l i v->DX rl l cs i=(as,i+v.length)
 |[],[],v,_,h,i,_=>by simp[GA]at h;subst h;rfl
 |c::cs,a::as,v,he,h,i,D=>by
  simp only[OZ,ak]at he;simp only[GA]at h;split at h
  ·rename_i L G;split at h
   ·rename_i M I;simp at h;subst h;simp only[DX,Zwd he.1 G D.left,Q8a he.2 I D.right,ap,dp]
   ·simp at h
  ·simp at h
 |[],_::_,_,he,_,_,_=>by simp[OZ]at he
 |_::_,[],_,he,_,_,_=>by simp[OZ]at he
theorem Qvk {rl:Nat->Nat} {l:List AC} {aB:List (Nat×Box)}:∀{bs:List (Nat×TypeId×List CS)} {m:List (Nat×Box)} {v:List AC},Hx bs m=true->(∀p∈m,Ab aB p.1=some p.2)->
  JY bs aB=some v->∀{i},Seg l i v->E0 rl l bs i=m
 |[],[],v,_,_,_,i,_=>rfl
 |(k,t,cs)::bs,(k',b)::m,v,he,D,h,i,G=>by
  simp only[Hx,ak]at he;obtain⟨e1,e2,e3,I⟩:=he;have e1:=ac e1;subst e1;have hb:=D (k,b) (by simp);dsimp only at hb;simp only[JY,hb,e2,ah]at h;split at h
  ·rename_i O L;split at h
   ·rename_i S M;simp at h;subst h;simp only[E0,Q8a e3 L G.left,Qvk I (λp N=>D p (by simp[N])) M G.right];obtain⟨ty,cells⟩:=b;simp only[ac e2]
   ·simp at h
  ·simp at h
 |[],_::_,_,he,_,_,_,_=>by simp[Hx]at he
 |_::_,[],_,he,_,_,_,_=>by simp[Hx]at he
theorem Q9r:∀{bs:List (Nat×TypeId×List CS)} {m:List (Nat×Box)},Hx bs m=true->m.map (·.1)=bs.map (·.1)
 |[],[],_=>rfl
 |(k,t,cs)::bs,(k',b)::m,he=>by
  simp only[Hx,ak]at he;simp only[bc,Q9r he.2.2.2,ac he.1]
 |[],_::_,he=>by simp[Hx]at he
 |_::_,[],he=>by simp[Hx]at he
theorem Zr7 {sig D:Sk} {m:List AC->Option (List AC)} (R:Type) (args:List TV) (mem:Mem) (K:TV->Mem->Option R):Em sig D m R args mem K=(Em sig D m (TV×Mem) args mem λv m=>some (v,m)).bind λp=>K p.1 p.2:=by
 obtain⟨aB,aC⟩:=mem;simp only[Em];cases(Ak (λp:Nat×Box=>Dh p.1) aB&&(Hx sig.aB aB&&(aC.isEmpty&&(sig.aC.isEmpty&&BH (sig.aB.map (·.1))))))
 ·rfl
 ·simp only[ah];cases Dm sig ⟨args,aB,aC⟩with
  |none=>rfl
  |some vars=>
   dsimp only;cases m vars with
   |none=>rfl
   |some o=>
    simp only[af];generalize AA D o=s;obtain⟨tm,b,r⟩:=s;cases b<;>cases r<;>try rfl
    dsimp only;split<;>rfl
theorem Z69 {sig D:Sk} {m:List AC->Option (List AC)}:UC (Em sig D m):=by
 intro args mem v G h;obtain⟨aB,aC⟩:=mem;simp only[Em]at h;obtain⟨_,h⟩:=Bx h;split at h
 ·simp only[bv]at h;obtain⟨o,_,h⟩:=h;split at h
  ·split at h
   ·simp only[an,cg]at h;exact h.2.symm
   ·simp at h
  ·simp at h
 ·simp at h
theorem G4 {rs:List Nat}:AllRo rs []:=trivial
theorem Ca {rs:List Nat} {k:Nat} {g:Spec} {l:List (Nat×Spec)} (h:AN rs k=false) (t:AllRo rs l):AllRo rs ((k,g)::l):=⟨.inl h,t⟩
theorem EI {rs:List Nat} {k:Nat} {sig D:Sk} {m:List AC->Option (List AC)} {l:List (Nat×Spec)} (t:AllRo rs l):AllRo rs ((k,Em sig D m)::l):=⟨.inr Z69,t⟩
def Zuc (P:Program) (C:Cfg) (L:Nat) (f:FuncId) (sig:Sk):Prop:=
 ∀(vars:List AC) (R:Type) (K:TV->Mem->Option R),EH P C L f (AA sig vars).tmps ⟨(AA sig vars).aB,(AA sig vars).aC⟩ K=EH P C L f (AA sig vars).tmps ⟨(AA sig vars).aB,(AA sig vars).aC⟩ λv _=>K v ⟨(AA sig vars).aB,(AA sig vars).aC⟩
open Classical in
theorem Qg {P:Program} {C:Cfg} {f:FuncId} {L:Nat} {sig G:Sk} (hc:In P f=true) (h:FnOK P C f) (a3:Aj P C) (b4:∀t∈C.eqOk,P.stoodInHeld t=false) (b1:P.follows .mixedOrders=true)
  (h1:sig.okB=true) (h2:G.okB=true) (hl:Zuc P C L f sig):Al P (f,Em sig G (LD P C L f sig G)):=by
 refine⟨Zr7,λargs mem v mem' S=>PCallM.x ?_ (Kx hc)⟩;obtain⟨aB,aC⟩:=mem;simp only[Em]at S;obtain⟨X,S⟩:=Bx S;simp only[ak]at X;obtain⟨X,hex,a4,T,a5⟩:=X;have a4:aC=[]:=by simpa using a4
 have T:sig.aC=[]:=by simpa using T
 subst a4;split at S
 ·rename_i vars D;simp only[bv]at S;obtain⟨o,ho,S⟩:=S;intro F w hG ρ xs b5;have hZ:InZ (Eh F w ρ aB hG):=Qr X;have a6:=b5.rebuild hZ h1 D
  have N:(AA sig vars).aB=aB:=by
   simp only[Dm]at D;obtain⟨_,D⟩:=Bx D;rw[T]at D;simp only[JC]at D;split at D
   ·rename_i b hb;split at D
    ·rename_i c Y;simp only[ax,an]at D;subst D;simp only[AA,T,GT];have U:=UP (aB:=aB) (aC:=[]) (ρ:=ρ) (w:=w) (rl:=DD []) ⟨λid r hl=>by simp[Ab]at hl⟩ hb (l:=b++c) (i:=0) (Seg.all _).left;generalize b6:ES (DD []) (b++c) sig.tmps 0=q at U;obtain⟨tm,i⟩:=q;have hi:i=0+b.length:=U.1;subst hi;have a7:=Q9r hex;refine Qvk hex (λp hp=>Qon (by rw[a7];exact a5) hp) Y (Seg.all (b++c)).right
    ·simp at D
   ·simp at D
  have O:(AA sig vars).aC=[]:=by simp only[AA,T,GT]
  have a8:=hl vars;unfold LD at ho;generalize hs:AA sig vars=s1 at ho a6 a8 N O;obtain⟨a9,M,b7⟩:=s1;dsimp only at ho a6 a8 N O;subst N;subst O;have b2:EH P C L f a9 ⟨M,[]⟩ (λv m=>if m=⟨M,[]⟩then Dm G ⟨[v],[],[]⟩else none)=some o:=by
   rw[a8];simp only[dt];exact ho
  refine(Zdj a3 b4 b1 hZ (λ_ b0=>h.sub b0) b2 a6).mono ?_;rintro e w' ⟨x,ρ',v',m',he,I,a0⟩;split at I
  ·rename_i hm;subst hm;dsimp only at a0
   simp only[Dm]at I;obtain⟨_,I⟩:=Bx I;split at I
   ·rename_i a ha;split at I
    ·rename_i b hb;split at I
     ·rename_i c Y;simp only[an]at I;subst I;split at S
      ·rename_i tm a1;split at S
       ·rename_i vn;simp only[an,cg]at S;obtain⟨rfl,rfl⟩:=S;have V:G.aC=[]:=by
         cases b8:G.aC with
         |nil=>rfl
         |cons p l=>obtain⟨k,t,ks⟩:=p;rw[b8]at ha;simp[JC,Ab]at ha
        rw[V]at ha;simp only[JC,an]at ha;subst ha;have U:=UP (aB:=M) (aC:=[]) (ρ:=ρ') (w:=w') (rl:=DD []) ⟨λid r hl=>by simp[Ab]at hl⟩ hb (l:=[]++(b++c)) (i:=0) (show Seg (b++c) 0 b from(Seg.all (b++c)).left);simp only[AA,V,GT]at a1;have a2:=Qi6 (B':=M) (R':=[]) (keys:=[]) (rs:=[]) (rl:=DD []) (by simp) (by simp[Ab]) (ts:=G.tmps)
         (by
          have:=h2;simp only[Sk.okB,ak]at this;have b9:G.aB=[]:=by
           cases c0:G.aB with
           |nil=>rfl
           |cons p l=>obtain⟨k,t,ks⟩:=p;rw[c0]at Y;simp[JY,Ab]at Y
          have h3:=this.1.2;rw[b9,V]at h3;exact h3) ([]++(b++c)) 0
        generalize b6:ES (DD []) ([]++(b++c)) G.tmps 0=q at U a1 a2;obtain⟨c2,i⟩:=q;simp only[St.mk.injEq]at a1;obtain⟨rfl,_,_⟩:=a1;obtain⟨u,b3,c1⟩:=U.2.2 0 vn rfl;simp only[List.getElem?_cons_zero,an]at b3;subst b3;refine⟨x,ρ',he,a0.slots (by simp) (λi u hi=> ?_) (λu hu=>a2 u hu)⟩;cases i with
        |zero=>
         simp at hi;subst hi;have:=a0.tv 0 v' rfl;exact c1 _ (a0.wt v' (by simp)) this
        |succ i=>simp at hi
       ·simp at S
      ·simp at S
     ·simp at I
    ·simp at I
   ·simp at I
  ·simp at I
 ·simp at S
abbrev I (n:Int):AC:= .int .i64 n
abbrev U (n:Int):AC:= .int .u64 n
abbrev B (b:Bool):AC:= .bool b
theorem Dl {x:Int} (h:0<=x/\x<=18446744073709551615):IntKind.u64.wrap x=x:=by
 simp[V,IntKind.wrap,IntKind.signed,IntKind.bits];omega
theorem Ly (x:Int):IntKind.u64.wrap x=x%18446744073709551616:=by
 simp[V,IntKind.wrap,IntKind.signed,IntKind.bits]
theorem Qb1 (x:Int):V x=(x+9223372036854775808)%18446744073709551616-9223372036854775808:=by
 simp[V,IntKind.wrap,IntKind.signed,IntKind.bits];omega
def i64 (x:Int):Prop:= -9223372036854775808<=x/\x<=9223372036854775807
theorem Zr2 (x:Int):i64 (V x):=by
 rw[Qb1];unfold i64;omega
theorem BG {α:Type} {c:Bool} {a b:α} (h:c=true):(bif c then a else b)=a:=by rw[h];rfl
theorem Bj {α:Type} {c:Bool} {a b:α} (h:c=false):(bif c then a else b)=b:=by rw[h];rfl
theorem DG {α:Type} {p:Prop} {inst:Decidable p} {a b:α} (h:p):(bif@decide p inst then a else b)=a:=by rw[@ai p inst h];rfl
theorem A1 {α:Type} {p:Prop} {inst:Decidable p} {a b:α} (h: ¬p):(bif@decide p inst then a else b)=b:=by rw[@aj p inst h];rfl
theorem Zwr {α:Type} {p:Prop} {inst:Decidable p} {a b:α}:(bif@decide p inst then a else b)=if p then a else b:=by
 by_cases h:p
 ·rw[DG h,aa h]
 ·rw[A1 h,ab h]
theorem Z3q {α:Type} {c:Bool} {a b:α}:(bif c then a else b)=if c=true then a else b:=by cases c<;>rfl
theorem Zkq {a b:Bool}:((a&&b)=true)=(a=true/\b=true):=by cases a<;>cases b<;>simp
theorem Zvw {a b:Bool}:((a||b)=true)=(a=true\/b=true):=by cases a<;>cases b<;>simp
theorem Zgy {a:Bool}:((!a)=true)= ¬(a=true):=by cases a<;>simp
theorem Z3c {p:Prop} {inst:Decidable p}:(@decide p inst=true)=p:=by simp
theorem Zzh {a b:Int}:((a==b)=true)=(a=b):=by simp
theorem Zmw {a b:Int}:((a !=b)=true)=(a≠b):=by simp
theorem Zx2 {a b:Nat}:(Nat.beq a b=true)=(a=b):=by simp
theorem Zrl {a b:Nat}:(Nat.ble a b=true)=(a<=b):=by simp
attribute [go_sem ↓] Zwr Z3q Zkq Zvw Zgy Z3c Zzh Zmw Zx2 Zrl
theorem H4 {α:Type} (d x:α) (l:List α):nth d (x::l) 0=x:=by simp[nth]
theorem HN (k:IntKind) (n:Int):Af (.int k n)=n:=by simp[Af]
theorem Qpl (b:Bool):Df (.bool b)=b:=by simp[Df]
theorem Qpx (ks:List Kd) (l:List (List AC)):Bp (.vC ks l)=l:=by simp[Bp]
theorem Zkt {p q:Prop} {i1:Decidable p} {D:Decidable q}:((@decide p i1== @decide q D)=true)=(p↔q):=by simp
theorem Z77 {a b:Nat}:((a==b)=true)=(a=b):=by simp
attribute [go_sem ↓] Zkt Z77
attribute [go_sem] dt f8
theorem Mm {α:Type} (d x:α) (l:List α):nth d (x::l) 1=nth d l 0:=by simp[nth]
theorem LR {α:Type} (d x:α) (l:List α):nth d (x::l) 2=nth d l 1:=by simp[nth]
theorem Ru {α:Type} (d x:α) (l:List α):nth d (x::l) 3=nth d l 2:=by simp[nth]
theorem PU {α:Type} (d x:α) (l:List α):nth d (x::l) 4=nth d l 3:=by simp[nth]
theorem Uy {α:Type} (d x:α) (l:List α):nth d (x::l) 5=nth d l 4:=by simp[nth]
theorem Qfv {α:Type} (d x:α) (l:List α):nth d (x::l) 6=nth d l 5:=by simp[nth]
theorem Qee {α:Type} (d x:α) (l:List α):nth d (x::l) 7=nth d l 6:=by simp[nth]
theorem Z0z {α:Type} (d x:α) (l:List α):nth d (x::l) 8=nth d l 7:=by simp[nth]
theorem Zm3 {α:Type} (d x:α) (l:List α):nth d (x::l) 9=nth d l 8:=by simp[nth]
theorem Z05 {α:Type} (d x:α) (l:List α):nth d (x::l) 10=nth d l 9:=by simp[nth]
theorem Z03 {α:Type} (d x:α) (l:List α):nth d (x::l) 11=nth d l 10:=by simp[nth]
theorem Z4w {α:Type} (d x:α) (l:List α):nth d (x::l) 12=nth d l 11:=by simp[nth]
theorem Ztc {α:Type} (d x:α) (l:List α):nth d (x::l) 13=nth d l 12:=by simp[nth]
theorem Zx6 {α:Type} (d x:α) (l:List α):nth d (x::l) 14=nth d l 13:=by simp[nth]
theorem Zkx {α:Type} (d x:α) (l:List α):nth d (x::l) 15=nth d l 14:=by simp[nth]
theorem Zh7 {α:Type} (d x:α) (l:List α):nth d (x::l) 16=nth d l 15:=by simp[nth]
theorem Z43 {α:Type} (d x:α) (l:List α):nth d (x::l) 17=nth d l 16:=by simp[nth]
theorem Zxd {α:Type} (d x:α) (l:List α):nth d (x::l) 18=nth d l 17:=by simp[nth]
theorem Ya1 {α:Type} (d x:α) (l:List α):nth d (x::l) 19=nth d l 18:=by simp[nth]
theorem Yd8 {α:Type} (d x:α) (l:List α):nth d (x::l) 20=nth d l 19:=by simp[nth]
theorem Zf9 {α:Type} (d x:α) (l:List α):nth d (x::l) 21=nth d l 20:=by simp[nth]
theorem Zhc {α:Type} (d x:α) (l:List α):nth d (x::l) 22=nth d l 21:=by simp[nth]
theorem Zyv {α:Type} (d x:α) (l:List α):nth d (x::l) 23=nth d l 22:=by simp[nth]
theorem Zfi {α:Type} (d x:α) (l:List α):nth d (x::l) 24=nth d l 23:=by simp[nth]
theorem Zh0 {α:Type} (d x:α) (l:List α):nth d (x::l) 25=nth d l 24:=by simp[nth]
theorem Z4m {α:Type} (d x:α) (l:List α):nth d (x::l) 26=nth d l 25:=by simp[nth]
theorem Ydn {α:Type} (d x:α) (l:List α):nth d (x::l) 27=nth d l 26:=by simp[nth]
theorem Zzd {α:Type} (d x:α) (l:List α):nth d (x::l) 28=nth d l 27:=by simp[nth]
theorem Zhj {α:Type} (d x:α) (l:List α):nth d (x::l) 29=nth d l 28:=by simp[nth]
theorem Zyf {α:Type} (d x:α) (l:List α):nth d (x::l) 30=nth d l 29:=by simp[nth]
theorem Zlg {α:Type} (d x:α) (l:List α):nth d (x::l) 31=nth d l 30:=by simp[nth]
theorem Zz8 {α:Type} (d x:α) (l:List α):nth d (x::l) 32=nth d l 31:=by simp[nth]
theorem Zqz {α:Type} (d x:α) (l:List α):nth d (x::l) 33=nth d l 32:=by simp[nth]
theorem Yb1 {α:Type} (d x:α) (l:List α):nth d (x::l) 34=nth d l 33:=by simp[nth]
theorem Zv2 {α:Type} (d x:α) (l:List α):nth d (x::l) 35=nth d l 34:=by simp[nth]
theorem Ydh {α:Type} (d x:α) (l:List α):nth d (x::l) 36=nth d l 35:=by simp[nth]
theorem Zua {α:Type} (d x:α) (l:List α):nth d (x::l) 37=nth d l 36:=by simp[nth]
theorem Zzk {α:Type} (d x:α) (l:List α):nth d (x::l) 38=nth d l 37:=by simp[nth]
theorem Zyc {α:Type} (d x:α) (l:List α):nth d (x::l) 39=nth d l 38:=by simp[nth]
attribute [go_sem] H4 Mm LR Ru PU Uy Qfv Qee Z0z Zm3 Z05 Z03 Z4w Ztc Zx6 Zkx Zh7 Z43 Zxd Ya1 Yd8 Zf9 Zhc Zyv Zfi Zh0 Z4m Ydn Zzd Zhj Zyf Zlg Zz8 Zqz Yb1 Zv2 Ydh Zua Zzk Zyc HN Qpl Qpx af
theorem Qx6 {S:Type} {step:List AC->Option (Nat×List AC)} (enc:S->List AC) (Inv:S->Prop) (m:S->Nat) (Q:Nat×List AC->Prop)
  (h:∀s,Inv s->(∃G,step (enc s)=some (0,enc G)/\Inv G/\m G<m s)\/∃o,step (enc s)=some o/\o.1≠0/\Q o):
  ∀s,Inv s->∃o,Am step (enc s)=some o/\o.1≠0/\Q o:=by
 have:∀n s,m s<=n->Inv s->∃o,Am step (enc s)=some o/\o.1≠0/\Q o:=by
  intro n;induction n with
  |zero=>
   intro s N L;rcases h s L with⟨G,I,D,M⟩|⟨o,I,D,M⟩
   ·omega
   ·refine⟨o,?_,D,M⟩;rw[QI,I];simp[D]
  |succ n O=>
   intro s N L;rcases h s L with⟨G,I,D,M⟩|⟨o,I,D,M⟩
   ·obtain⟨o,T,U⟩:=O G (by omega) D;refine⟨o,?_,U⟩;rw[QI,I];simpa using T
   ·refine⟨o,?_,D,M⟩;rw[QI,I];simp[D]
 intro s L;exact this _ s (cm _) L
theorem A5 {step:List AC->Option (Nat×List AC)} {v w:List AC} (h:step v=some (0,w)):Am step v=Am step w:=by
 rw[QI,h];rfl
theorem AQ {step:List AC->Option (Nat×List AC)} {v:List AC} {o:Nat×List AC} (h:step v=some o) (D:o.1≠0):Am step v=some o:=by
 rw[QI,h];simp[D]
theorem Zw6 {sig D:Sk} {m:List AC->Option (List AC)} {args:List TV} {vars:List AC} (G:Dm sig ⟨args,[],[]⟩=some vars) (I:m vars=some [B true]) (L:AA D [B true]=⟨[.v false [.bool true]],[],[]⟩):
  (Ad sig D m (TV×Mem) args ⟨[],[]⟩ λv m=>some (v,m))=some (.v false [.bool true],⟨[],[]⟩):=by
 simp only[Ad,Ak,ah];rw[G];dsimp only;rw[I];simp only[af];rw[L]
theorem Ar.tv_of {a:Ar} {g:Bool} {ks:List Kd} (D:a.agg=g) (G:a.ks=ks):a.tv= .v g (AM ks a.raw):=by unfold Ar.tv;rw[D,G]
theorem Ja {α:Type} (f:α->List AC) (d:List AC):∀(l:List α) (i:Nat) (h:i<l.length),nth d (l.map f) i=f l[i]
 |x::l,0,_=>rfl
 |x::l,i+1,h=>by simp only[bc,nth,jf];exact Ja f d l i (by simpa using h)
theorem Gb {α:Type} (d:α):∀(l:List α) (i:Nat) (h:i<l.length),nth d l i=l[i]
 |x::l,0,_=>rfl
 |x::l,i+1,h=>by simp only[nth,jf];exact Gb d l i (by simpa using h)
def As (n:Int):List AC:=[I n]
theorem OT {α:Type} (l:List α) (i:Nat) (h:i<l.length):l.drop i=l[i]::l.drop (i+1):=by simp
end Go.Bm
