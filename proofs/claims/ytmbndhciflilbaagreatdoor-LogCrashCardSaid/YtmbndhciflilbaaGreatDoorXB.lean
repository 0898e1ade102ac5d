/-
  Texts of a proof, as one: XRules, XVal, XDrw, XApp, XFresh, XAny, XOrd, XHd, XPlan, XQuiet, XInv.
-/
import Derived.Test.YtmbndhciflilbaaGreatDoorXTypes
import Derived.Orders
import Derived.StillTail
namespace Go.Proofs.YtmbndhciflilbaaGreatDoor.X
set_option linter.unusedSimpArgs false
set_option linter.unusedVariables false
section
variable {P:Program}
theorem YSem.mono {l:Nat} {args:List AV} {h:Heap} {Q Q':AV→Heap→Prop} (hc:YSem P l args h Q) (hq:∀ x h',Q x h'→Q' x h'):YSem P l args h Q':=by
 intro I ρ w cargs R ha
 obtain ⟨fn,tmps,a1,b1,h1,h2⟩:=hc I ρ w cargs R ha
 refine ⟨fn,tmps,a1,b1,h1,h2.mono ?_⟩
 rintro e w' ⟨v,x,h',I', ρ',a1,a2,a3,a4,a5⟩
 exact ⟨v,x,h',I', ρ',a1,hq _ _ a2,a3,a4,a5⟩
theorem Kh {o:Oper} {K K':Regs→Heap→Prop} (hk:∀ r h,K r h→K' r h) {r:Regs} {h:Heap} (hw:wpO P o K r h):wpO P o K' r h:=by
 unfold wpO at hw ⊢
 split at hw
 ·exact hw.mono fun _ _=>hk _ _
 ·obtain ⟨l,vs,e,k⟩:=hw;exact ⟨l,vs,e,k.mono fun _ _=>hk _ _⟩
 ·rcases hw with ⟨v,h',e,k⟩|hw
  ·exact .inl ⟨v,h',e,hk _ _ k⟩
  ·exact .inr (Xy (fun _ _=>hk _ _) hw)
theorem X9 {op : Op} {dst : Option Tmp} {K K' : Regs → Heap → Prop} (hk : ∀ r h, K r h → K' r h) {r : Regs} {h : Heap} (hw : wpI P op dst K r h) : wpI P op dst K' r h := (Kh (P := P) (o := ⟨dst, op, 0, "", #[], none⟩) hk hw : _)
theorem Ps {ops:Array Oper} {K K':Regs→Heap→Prop} (hk:∀ r h,K r h→K' r h):∀ (l:List Oper) (r:Regs) (h:Heap),wpOs P ops K l r h→wpOs P ops K' l r h
 | [],r,h,hw=>hk r h hw
 | o :: l,r,h,⟨b,e,h1,h2⟩=>⟨b,e,fun hb=>Kh (Ps hk l) (h1 hb),fun hb=>Ps hk l _ _ (h2 hb)⟩
theorem A5e {ops:Array Oper} {K K':Regs→Heap→Prop} (hk:∀ r h,K r h→K' r h):∀ (f:Nat) (l:Array Bool) (r:Regs) (h:Heap),Bn P ops K f l r h→Bn P ops K' f l r h:=by
 intro f
 induction f with
 | zero=>intro l r h hw;exact ⟨hw.1,hk _ _ hw.2⟩
 | succ f ih =>
  intro l r h hw
  refine ⟨fun e=>hk _ _ (hw.1 e),fun i hi=> ?_⟩
  have:=hw.2 i hi
  split at this
  ·exact ih _ _ _ this
  ·obtain ⟨b,e,h1,h2⟩:=this
   exact ⟨b,e,fun hb=>Kh (ih _) (h1 hb),fun hb=>ih _ _ _ (h2 hb)⟩
theorem A7y {F:(Out→Regs→Heap→Prop)→Regs→Heap→Prop} (hF:∀ (Q Q':Out→Regs→Heap→Prop),(∀ o r h,Q o r h→Q' o r h)→∀ r h,F Q r h→F Q' r h) {Q Q':Out→Regs→Heap→Prop} (hq:∀ o r h,Q o r h→Q' o r h) :
  ∀ (n:Nat) (r:Regs) (h:Heap),U9 F Q n r h→U9 F Q' n r h:=by
 intro n
 induction n with
 | zero=>intro r h hw;exact hw
 | succ n ih =>
  intro r h hw
  refine hF _ _ ?_ r h hw
  intro o r' h' k
  cases o with
  | norm=>exact ih _ _ k
  | exit i=>exact hq _ _ _ k
  | ret=>exact hq _ _ _ k
theorem Ru:∀ (c:Code) (Q Q':Out→Regs→Heap→Prop),(∀ o r h,Q o r h→Q' o r h)→∀ (r:Regs) (h:Heap),wpc P c Q r h→wpc P c Q' r h:=by
 intro c
 induction c with
 | region id ops draw =>
  intro Q Q' hq r h hw
  cases draw with
  | false=>exact Ps (hq .norm) _ r h hw
  | true=>exact A5e (hq .norm) _ _ r h hw
 | seq a b iha ihb =>
  intro Q Q' hq r h hw
  refine iha _ _ ?_ r h hw
  intro o r' h' k
  cases o with
  | norm=>exact ihb _ _ hq _ _ k
  | exit i=>exact hq _ _ _ k
  | ret=>exact hq _ _ _ k
 | cond c a b iha ihb =>
  rintro Q Q' hq r h ⟨t,e,h1,h2⟩
  exact ⟨t,e,fun ht=>iha _ _ hq _ _ (h1 ht),fun ht=>ihb _ _ hq _ _ (h2 ht)⟩
 | block id b ih =>
  intro Q Q' hq r h hw
  refine ih _ _ ?_ r h hw
  intro o r' h' k
  cases o with
  | norm=>exact hq _ _ _ k
  | exit i =>
   revert k
   simp only
   split
   ·exact hq _ _ _
   ·exact hq _ _ _
  | ret=>exact hq _ _ _ k
 | loop b ih =>
  rintro Q Q' hq r h ⟨n,hw⟩
  exact ⟨n,A7y ih hq n r h hw⟩
 | scope b ih=>intro Q Q' hq r h hw;exact ih Q Q' hq r h hw
 | skip=>intro Q Q' hq r h hw;exact hq _ _ _ hw
 | label l=>intro Q Q' hq r h hw;exact hq _ _ _ hw
 | exit id=>intro Q Q' hq r h hw;exact hq _ _ _ hw
 | ret=>intro Q Q' hq r h hw;exact hq _ _ _ hw
 | rangeFunc g ps a1 b1 _ _ =>
  rintro Q Q' hq r h ⟨hl,gf,a,b,he,hc⟩
  refine ⟨hl,gf,a,b,he,fun id=>(hc id).mono ?_⟩
  rintro x h' ⟨lp,e,k⟩
  refine ⟨lp,e,?_⟩
  cases hst:lp.st with
  | ready=>rw [hst] at k;exact hq _ _ _ k
  | busy=>rw [hst] at k;exact k.elim
  | done o =>
   rw [hst] at k
   cases o with
   | norm=>exact k.elim
   | ret=>exact hq _ _ _ k
   | exit i=>exact hq _ _ _ k
 | goto=>intro Q Q' hq r h hw;exact hw.elim
 | refuse=>intro Q Q' hq r h hw;exact hw.elim
theorem R7 {c:Code} {Q:Out→Regs→Heap→Prop} {r:Regs} {h:Heap} (M:Regs→Heap→Prop) (h1:wpc P c (fun o r' h'=>o = .norm∧M r' h') r h) (h2:∀ r' h',M r' h'→Q .norm r' h'):wpc P c Q r h :=
 Ru c _ _ (by rintro o r' h' ⟨rfl,k⟩;exact h2 _ _ k) r h h1
def Rnd (J:Regs→Heap→Prop) (Q:Out→Regs→Heap→Prop):Out→Regs→Heap→Prop
 | .norm,r,h=>J r h
 | o,r,h=>Q o r h
section
variable {J:Regs→Heap→Prop} {Q:Out→Regs→Heap→Prop} {r r':Regs} {h h':Heap}
@[simp] theorem Rnd_norm:Rnd J Q .norm r h=J r h:=rfl
@[simp] theorem Rnd_exit {i:Nat} : Rnd J Q (.exit i) r h=Q (.exit i) r h:=rfl
@[simp] theorem Rnd_ret:Rnd J Q .ret r h=Q .ret r h:=rfl
@[congr] theorem Rnd_congr {o:Out} (e1:r=r') (e2:h=h'):Rnd J Q o r h=Rnd J Q o r' h':=by rw [e1,e2]
end
theorem Ar {α:Type} (Inv:α→Regs→Heap→Prop) (m:α→Nat) {b:Code} {Q:Out→Regs→Heap→Prop}
  (hs:∀ a r h,Inv a r h→wpc P b (Rnd (fun r' h'=> ∃ a',m a' < m a∧Inv a' r' h') Q) r h) (a:α) {r:Regs} {h:Heap} (h0:Inv a r h):wpc P (.loop b) Q r h:=by
 suffices H:∀ (n:Nat) (a:α) (r:Regs) (h:Heap),m a < n→Inv a r h→U9 (wpc P b) Q n r h from ⟨m a+1,H _ a r h (Nat.lt_succ_self _) h0⟩
 intro n
 induction n with
 | zero=>intro a r h hn;omega
 | succ n ih =>
  intro a r h hn hi
  refine Ru b _ _ ?_ r h (hs a r h hi)
  intro o r' h' k
  cases o with
  | norm=>obtain ⟨a',h1,h2⟩:=k;exact ih a' r' h' ω h2
  | exit i=>exact k
  | ret=>exact k
theorem CSem.then {f:FuncId} {args:List AV} {h:Heap} {Q Q':AV→Heap→Prop} (hc:CSem P f args h Q) (hq:∀ x h',Q x h'→Q' x h'):Call P f args h Q':=Call.of (hc.mono hq)
theorem CSem.use {f:FuncId} {args:List AV} {h:Heap} {x:AV} {Q:AV→Heap→Prop} (hc:CSem P f args h fun x' h'=>x'=x∧h'=h) (hq:Q x h):Call P f args h Q :=
 Call.of <|
 hc.mono (by rintro _ _ ⟨rfl,rfl⟩;exact hq)
theorem wrap64 {n:Int} (h1 : -9223372036854775808≤n) (h2:n < 9223372036854775808):IntKind.i64.wrap n=n:=by
 have e:IntKind.i64.wrap n=if n % 18446744073709551616 ≥ 9223372036854775808 then n % 18446744073709551616 - 18446744073709551616 else n % 18446744073709551616:=by
  simp [IntKind.wrap,IntKind.bits,IntKind.signed]
 rw [e]
 split<;>omega
theorem Yu {n:Int} (h1:0≤n) (h2:n < 256):IntKind.u8.wrap n=n:=by
 simp only [IntKind.wrap,IntKind.bits,IntKind.signed]
 simp
 omega
theorem Acn {a b:Int} (a0:0≤a) (a1:a < 9223372036854775808) (b0:0≤b) (b1:b < 9223372036854775808):intX .xor .i64 a b=some (.int .i64 ((a.toNat ^^^ b.toNat:Nat):Int)):=by
 have ha:a.toNat < 2 ^ 63:=by omega
 have hb:b.toNat < 2 ^ 63:=by omega
 have hx:=Nat.xor_lt_two_pow ha hb
 simp only [intX]
 have e:(BitVec.ofInt IntKind.i64.bits a ^^^ BitVec.ofInt IntKind.i64.bits b).toNat=a.toNat ^^^ b.toNat:=by
  show (BitVec.ofInt 64 a ^^^ BitVec.ofInt 64 b).toNat=_
  rw [BitVec.toNat_xor,BitVec.toNat_ofInt,BitVec.toNat_ofInt]
  congr 1<;>omega
 rw [e,wrap64 ω ω]
theorem xor8 {a b:Int} (a0:0≤a) (a1:a < 256) (b0:0≤b) (b1:b < 256):intX .xor .u8 a b=some (.int .u8 ((a.toNat ^^^ b.toNat:Nat):Int)):=by
 have ha:a.toNat < 2 ^ 8:=by omega
 have hb:b.toNat < 2 ^ 8:=by omega
 have hx:=Nat.xor_lt_two_pow ha hb
 simp only [intX]
 have e:(BitVec.ofInt IntKind.u8.bits a ^^^ BitVec.ofInt IntKind.u8.bits b).toNat=a.toNat ^^^ b.toNat:=by
  show (BitVec.ofInt 8 a ^^^ BitVec.ofInt 8 b).toNat=_
  rw [BitVec.toNat_xor,BitVec.toNat_ofInt,BitVec.toNat_ofInt]
  congr 1<;>omega
 rw [e,Yu ω ω]
theorem and8 {a b:Int} (a0:0≤a) (a1:a < 256) (b0:0≤b) (b1:b < 256):intX .and .u8 a b=some (.int .u8 ((a.toNat &&& b.toNat:Nat):Int)):=by
 have hx:a.toNat &&& b.toNat≤a.toNat:=Nat.and_le_left
 simp only [intX]
 have e:(BitVec.ofInt IntKind.u8.bits a &&& BitVec.ofInt IntKind.u8.bits b).toNat=a.toNat &&& b.toNat:=by
  show (BitVec.ofInt 8 a &&& BitVec.ofInt 8 b).toNat=_
  rw [BitVec.toNat_and,BitVec.toNat_ofInt,BitVec.toNat_ofInt]
  congr 1<;>omega
 rw [e,Yu ω ω]
@[simp] theorem shl1 {k:IntKind} {a:Int} : Fv .shl k a 1=some (.int k (k.wrap (a * 2))):=by
 cases k<;>simp [Fv,IntKind.bits]
@[simp] theorem shr1 {k:IntKind} {a:Nat} : Fv .shr k a 1=some (.int k ((a / 2:Nat):Int)):=by
 cases k<;>simp [Fv,IntKind.bits]<;>(rw [Int.fdiv_eq_ediv_of_nonneg _ ν])
end
def B8 (b:UInt8):AV:= .int .u8 b.toNat
def I64 (n:Int):AV:= .int .i64 n
def S (l:List UInt8):AV:= .str ⟨l.toArray⟩
def TL {α:Type} (f:α→AV) (l:List α):AV:= .vec l.length (l.map f)
abbrev SL:List (List UInt8)→AV:=TL S
abbrev BL:List UInt8→AV:=TL B8
abbrev IL:List Int→AV:=TL I64
abbrev OL:List Bool→AV:=TL AV.bool
abbrev BBL:List (List UInt8)→AV:=TL BL
@[simp] theorem Alc_S {l:List UInt8} {K1:AV→Prop} {K2:Prop} : Alc (S l) K1 K2=K1 (S l):=Eg (by simp [S])
@[simp] theorem Alc_aggS {l:List UInt8} {xs:List AV} {K1:AV→Prop} {K2:Prop} : Alc (.agg (S l :: xs)) K1 K2=K1 (.agg (S l :: xs)):=Eg (by simp [S])
@[simp] theorem B8_atom (b:UInt8):(B8 b).atom=true:=id rfl
@[simp] theorem Ad8 (b:Int):(I64 b).atom=true:=id rfl
@[simp] theorem Jk (b:List UInt8):(S b).atom=true:=id rfl
@[simp] theorem TL_atom {α:Type} (f:α→AV) (l:List α):(TL f l).atom=true:=id rfl
@[simp] theorem bool_atom (b:Bool):(AV.bool b).atom=true:=id rfl
@[simp] theorem int_atom (k:IntKind) (n:Int):(AV.int k n).atom=true:=id rfl
@[simp] theorem sl_atom (b off n c z:Nat):(AV.sl b off n c z).atom=true:=id rfl
@[simp] theorem nilSl_atom:AV.nilSl.atom=true:=id rfl
@[simp] theorem B8_cells (b:UInt8):(B8 b).cells=[B8 b]:=id rfl
@[simp] theorem I64_cells (b:Int):(I64 b).cells=[I64 b]:=id rfl
@[simp] theorem S_cells (b:List UInt8):(S b).cells=[S b]:=id rfl
@[simp] theorem TL_cells {α:Type} (f:α→AV) (l:List α):(TL f l).cells=[TL f l]:=id rfl
@[simp] theorem bool_cells (b:Bool):(AV.bool b).cells=[AV.bool b]:=id rfl
@[simp] theorem int_cells (k:IntKind) (n:Int):(AV.int k n).cells=[AV.int k n]:=id rfl
@[simp] theorem sl_cells (b off n c z:Nat):(AV.sl b off n c z).cells=[AV.sl b off n c z]:=id rfl
@[simp] theorem Akp:AV.nilSl.cells=[AV.nilSl]:=id rfl
@[simp] theorem str_nil:AV.str { data := #[] } = S []:=id rfl
@[simp] theorem map_atom {α:Type} (f:α→AV) (hf:∀ x,(f x).atom=true) (l:List α):(l.map f).all AV.atom=true:=by
 simp [hf]
section
variable {P:Program} {h:Heap} {t e:TypeId}
@[simp] theorem lenX_S (ht:strT P t=true) (l:List UInt8):lenX P t (S l)=some (.int .i64 l.length):=by
 simp [lenX,Lh ht,S,ByteArray.size]
theorem S8 (ht:(elT P t).isSome=true):∃ e,elT P t=some e∧P.underlying t=some (.slice e):=by
 obtain ⟨e,he⟩:=Option.isSome_iff_exists.1 ht
 exact ⟨e,he,Bu he⟩
@[simp] theorem lenX_TL {α:Type} {f:α→AV} (ht:(elT P t).isSome=true) (l:List α):lenX P t (TL f l)=some (.int .i64 l.length):=by
 obtain ⟨e,_,ht⟩:=S8 ht
 simp [lenX,ht,TL,AV.len?]
@[simp] theorem lenX_nil (ht:(elT P t).isSome=true):lenX P t .nilSl=some (.int .i64 0):=by
 obtain ⟨e,_,ht⟩:=S8 ht
 simp [lenX,ht,AV.len?]
@[simp] theorem lenX_sl (ht:(elT P t).isSome=true) {b off n c z:Nat} : lenX P t (.sl b off n c z)=some (.int .i64 n):=by
 obtain ⟨e,_,ht⟩:=S8 ht
 simp [lenX,ht,AV.len?]
@[simp] theorem indexX_S (ht:strT P t=true) {l:List UInt8} {k:IntKind} {i:Int} (h0:0≤i):Mk P t (S l) (.int k i)=(l[i.toNat]?).map B8:=by
 simp [Mk,Lh ht,S,h0];rfl
@[simp] theorem Agg {α:Type} {f:α→AV} (hz:(elT P t).bind (szT P)=some 1) {l:List α} {k:IntKind} {i:Int} (h0:0≤i) (h1:i < l.length) :
  Bx P t (TL f l) (.int k i)=some (.ipt ((l.map f).drop i.toNat)):=by
 obtain ⟨e,he,hz⟩:=Option.bind_eq_some_iff.1 hz
 simp [Bx,Bu he,hz,TL,h0,h1]
@[simp] theorem Fz {z:Nat} (hz:(elT P t).bind (szT P)=some z) {b off n c:Nat} {k:IntKind} {i:Int} (h0:0≤i) (h1:i < n) :
  Bx P t (.sl b off n c z) (.int k i)=some (.ptr b (off+i.toNat * z)):=by
 obtain ⟨e,he,hz⟩:=Option.bind_eq_some_iff.1 hz
 simp [Bx,Bu he,hz,h0,h1]
@[simp] theorem Acb (ha:aggT P t=some false) (hz:(szT P t).isSome=true) {xs:List AV} : Fc P h t (.ipt xs)=xs[0]? := by
 obtain ⟨z,hz⟩:=Option.isSome_iff_exists.1 hz
 simp only [Fc,ha,hz,at?]
 cases xs<;>rfl
@[simp] theorem loadX_ptr (ha:aggT P t=some false) (hz:(szT P t).isSome=true) {b n:Nat} : Fc P h t (.ptr b n)=(h.get b).bind fun xs=>xs[n]? := by
 obtain ⟨z,hz⟩:=Option.isSome_iff_exists.1 hz
 simp only [Fc,ha,hz,at?]
 cases h.get b with
 | none=>rfl
 | some xs =>
  simp only [Option.map_some,Option.bind_some]
  rw [←List.head?_drop]
  cases xs.drop n<;>rfl
theorem Nj {xs:List AV} {n:Nat} {v:AV} : putN xs n [v]=if n < xs.length then some (xs.set n v) else none:=by
 by_cases hn:n < xs.length
 ·rw [List.set_eq_take_append_cons_drop]
  simp [putN,hn,Nat.succ_le_of_lt hn]
 ·simp [putN,hn];omega
theorem G9 {v:AV} (hv:v.atom=true):v.cells=[v]:=by
 cases v<;>first|rfl|cases hv
@[simp] theorem storeX_ptr (hz:szT P t=some 1) {b n:Nat} {v:AV} (hv:v.atom=true) :
  Hh P h t (.ptr b n) v=(h.get b).bind fun xs=>if n < xs.length then some (h.put b (xs.set n v)) else none:=by
 have hc:=G9 hv
 simp only [Hh,hz,hc,hv]
 cases h.get b with
 | none=>simp
 | some xs =>
  simp [hv,Nj]
@[simp] theorem Ajg (l:List UInt8):Fe (l.map B8)=some l:=by
 induction l with
 | nil=>rfl
 | cons b l ih=>simp [Fe,B8] at ih ⊢;simp [ih]
@[simp] theorem Acm {s d:TypeId} (hs:strT P s=true) (hd:(elT P d).bind (intT P)=some .u8) (l:List UInt8) :
  Kf P h s d (S l)=some (.sl h.next 0 l.length l.length 1,h.alloc (l.map B8)):=by
 obtain ⟨e,he,hd⟩:=Option.bind_eq_some_iff.1 hd
 simp [Kf,Lh hs,Bu he,Mx hd,S,ByteArray.size]
 congr 1
@[simp] theorem Ajh {s d:TypeId} (hd:strT P d=true) (hs:(elT P s).bind (intT P)=some .u8) {b off n c z:Nat} :
  Kf P h s d (.sl b off n c z)=(h.get b).bind fun xs=>(takeN xs off (n * 1)).bind fun ys=>(Fe ys).map fun l=>(S l,h):=by
 obtain ⟨e,he,hs⟩:=Option.bind_eq_some_iff.1 hs
 simp only [Kf,Lh hd,Bu he,Mx hs,AV.len?,Ca,S]
 cases h.get b with
 | none=>rfl
 | some xs =>
  simp only [Option.bind_some]
  cases takeN xs off (n * 1) with
  | none=>rfl
  | some ys =>
   simp only [Option.bind_some]
   cases Fe ys<;>rfl
@[simp] theorem Ajj {s d:TypeId} (hd:strT P d=true) (hs:(elT P s).bind (intT P)=some .u8) (l:List UInt8):Kf P h s d (BL l)=some (S l,h):=by
 obtain ⟨e,he,hs⟩:=Option.bind_eq_some_iff.1 hs
 have:takeN (l.map B8) 0 l.length=some (l.map B8):=by simp [takeN,List.take_of_length_le]
 simp [Kf,Lh hd,Bu he,Mx hs,AV.len?,Ca,TL,S,this]
@[simp] theorem Sv {s d:TypeId} {k2:IntKind} {n:Int} : Kf P h s d (.int k2 n)=(intT P s).bind fun _=>(intT P d).map fun k=>(.int k (k.wrap n),h):=by
 unfold Kf intT
 rcases P.underlying s with _|(_|_|_|_|_|_|_|_|_|_|_|_|_|_|_)<;>rcases P.underlying d with _|(_|_|_|_|_|_|_|_|_|_|_|_|_|_|_)<;>first|rfl|skip
 all_goals (simp [AV.len?];try (split<;>rfl))
@[simp] theorem Sw {l:List AV} {n:Nat} (hn:n=l.length):takeN l 0 n=some l:=by subst hn;simp [takeN]
theorem A9e (l m:List UInt8):J7 ⟨l.toArray⟩ ⟨m.toArray⟩=(l == m):=by simp [J7]
@[simp] theorem binX_Seq (l m:List UInt8):binX P .eql t (S l) (S m)=some (.bool (decide (l=m))):=by
 simp [S,strX,A9e]
 rw [Bool.eq_iff_iff];simp
@[simp] theorem binX_Sneq (l m:List UInt8):binX P .neq t (S l) (S m)=some (.bool (!decide (l=m))):=by
 simp [S,strX,A9e]
 rw [Bool.eq_iff_iff];simp
@[simp] theorem Zv (l m:List UInt8) (hl:l.length+m.length≤2 ^ 47):binX P .add t (S l) (S m)=some (S (l ++ m)):=by
 have:(⟨l.toArray⟩:ByteArray) ++ ⟨m.toArray⟩=⟨(l ++ m).toArray⟩:=by
  apply ByteArray.ext
  simp
 simp [S,strX,this]
 simp [ByteArray.size]
 omega
@[simp] theorem Heap.next_alloc (h:Heap) (cs:List AV):(h.alloc cs).next=h.next+1:=id rfl
@[simp] theorem Heap.next_put (h:Heap) (k:Nat) (cs:List AV):(h.put k cs).next=h.next:=id rfl
@[simp] theorem Heap.next_kill (h:Heap) (k:Nat):(h.kill k).next=h.next:=id rfl
@[simp] theorem Heap.next_empty:Heap.empty.next=0:=id rfl
theorem Heap.A9 (h:Heap) (cs:List AV):(h.alloc cs).get h.next=some cs:=by rw [Heap.Aa,if_pos rfl]
theorem Heap.Ag {h:Heap} {cs xs:List AV} {k:Nat} (hg:h.get k=some xs):(h.alloc cs).get k=some xs:=by
 rw [Heap.Aa,if_neg (Nat.ne_of_lt (Heap.Ah hg)),hg]
theorem Heap.Ak {h:Heap} {k:Nat} {xs cs:List AV} (hg:h.get k=some xs):(h.put k cs).get k=some cs:=by rw [Heap.Ad _ _ _ _ (Heap.Ah hg),if_pos rfl]
theorem Heap.Aq {h:Heap} {k j:Nat} {xs cs:List AV} (hg:h.get j=some xs) (hne:k≠j):(h.put j cs).get k=h.get k:=by rw [Heap.Ad _ _ _ _ (Heap.Ah hg),if_neg hne]
def Own (h:Heap) (x:AV) (xs:List AV):Prop:=(x = .nilSl∧xs=[])∨∃ b,x = .sl b 0 xs.length xs.length 1∧h.get b=some xs
theorem Vx {x:AV} : ∀ n:Nat,(List.replicate n [x]).flatten=List.replicate n x
 | 0=>rfl
 | n+1=>by simp [List.replicate_succ,Vx n]
@[simp] theorem Ag0 (hz:(elT P t).bind (szT P)=some 1) (ha:((elT P t).bind (B7 P)).all AV.atom=true) {n:Int} : Ee P h t (.int .i64 n) (.int .i64 n) =
  ((elT P t).bind (B7 P)).bind fun z=>((elT P t).bind (byT P)).bind fun bytes=>if 0≤n∧(bytes:Int) * n≤2 ^ 47∧n≤2 ^ 47 then some (.sl h.next 0 n.toNat n.toNat 1,h.alloc (List.replicate n.toNat z)) else none:=by
 obtain ⟨e,he,hz⟩:=Option.bind_eq_some_iff.1 hz
 simp only [he,Option.bind_some] at ha
 simp only [Ee,Bu he,he,Option.bind_some,hz]
 cases hza:B7 P e with
 | none =>
  simp only [Option.bind_none]
  cases hb:byT P e with
  | none=>rfl
  | some bytes=>simp [Fu,hza]
 | some z =>
  rw [hza] at ha
  cases hb:byT P e with
  | none=>rfl
  | some bytes =>
   simp only [Option.bind_some,Fu,hza]
   rw [G9 (by simpa using ha),Vx]
   simp at ha
   by_cases h0:0≤n<;>simp [h0,ha]
theorem Ac (ha:aggT P t=some true) {b n:Nat} : Fc P h t (.ptr b n)=(szT P t).bind fun z=>(h.get b).bind fun xs=>(takeN (xs.drop n) 0 z).map .agg:=by
 simp only [Fc,ha,at?]
 cases szT P t with
 | none=>rfl
 | some z=>cases h.get b<;>rfl
theorem Aj {b n:Nat} {cs:List AV} : Hh P h t (.ptr b n) (.agg cs)=(szT P t).bind fun z=>if 0 < z∧cs.length=z∧cs.all AV.atom=true then (h.get b).bind fun xs=>(putN xs n cs).map (h.put b) else none:=by
 simp only [Hh,AV.cells]
 cases szT P t with
 | none=>rfl
 | some z =>
  simp only [Option.bind_some]
  cases hg:h.get b<;>simp
theorem Qz {xs cs:List AV} (hl:cs.length=xs.length):putN xs 0 cs=some cs:=by
 simp [putN,hl]
@[simp] theorem resX_cell {a:Tmp} {r:Regs} : resX P [.cell a t] r h=Fc P h t (rg r a):=by
 simp only [resX,resL,res1]
 cases Fc P h t (rg r a)<;>rfl
@[simp] theorem snap_S {al:Bool} {k:Nat} (l:List UInt8):snap h al (k+1) (S l)=some (S l):=id rfl
@[simp] theorem snap_B8 {al:Bool} {k:Nat} (b:UInt8):snap h al (k+1) (B8 b)=some (B8 b):=id rfl
@[simp] theorem snap_I64 {al:Bool} {k:Nat} (b:Int):snap h al (k+1) (I64 b)=some (I64 b):=id rfl
@[simp] theorem snap_int {al:Bool} {k:Nat} {i:IntKind} {n:Int} : snap h al (k+1) (.int i n)=some (.int i n):=id rfl
@[simp] theorem snap_bool {al:Bool} {k:Nat} {b:Bool} : snap h al (k+1) (.bool b)=some (.bool b):=id rfl
@[simp] theorem snap_nilSl {al:Bool} {k:Nat} : snap h al (k+1) .nilSl=some (.vec 0 []):=id rfl
@[simp] theorem snap_tup {al:Bool} {k:Nat} {xs:List AV} : snap h al (k+1) (.tup xs)=(mapL (snap h al k) xs).map .tup:=by
 simp only [snap]
 cases mapL (snap h al k) xs<;>rfl
@[simp] theorem Da {al:Bool} {k:Nat} {xs:List AV} : snap h al (k+1) (.agg xs)=(mapL (snap h al k) xs).map .agg:=by
 simp only [snap]
 cases mapL (snap h al k) xs<;>rfl
@[simp] theorem mapL_nil {f:AV→Option AV} : mapL f []=some []:=id rfl
@[simp] theorem Abk {f:AV→Option AV} {x:AV} {l:List AV} : mapL f (x :: l)=(f x).bind fun y=>(mapL f l).map fun ys=>y :: ys:=by
 simp only [mapL]
 cases f x with
 | none=>simp
 | some y=>cases mapL f l<;>simp
theorem Qy {α:Type} {f:AV→Option AV} {g g':α→AV} {l:List α} (hf:∀ x∈l,f (g x)=some (g' x)):mapL f (l.map g)=some (l.map g'):=by
 induction l with
 | nil=>rfl
 | cons x l ih=>simp [hf,ih (fun y hy=>hf y (by simp [hy]))]
theorem Sg {α:Type} {f:α→AV} {k:Nat} (hf:∀ x,snap h true k (f x)=some (f x)) (l:List α):snap h true (k+1) (TL f l)=some (TL f l):=by
 simp only [TL,snap]
 split
 ·rename_i h0
  obtain ⟨h1,h2⟩:=h0
  simp at h1
  subst h1
  rfl
 ·simp [Qy (fun x _=>hf x)]
@[simp] theorem snap_SL {k:Nat} (l:List (List UInt8)):snap h true (k+2) (SL l)=some (SL l):=Sg (fun _=>rfl) l
@[simp] theorem Ajk {k:Nat} (l:List UInt8):snap h true (k+2) (BL l)=some (BL l):=Sg (fun _=>rfl) l
@[simp] theorem snap_IL {k:Nat} (l:List Int):snap h true (k+2) (IL l)=some (IL l):=Sg (fun _=>rfl) l
@[simp] theorem snap_OL {k:Nat} (l:List Bool):snap h true (k+2) (OL l)=some (OL l):=Sg (fun _=>rfl) l
@[simp] theorem snap_BBL {k:Nat} (l:List (List UInt8)):snap h true (k+3) (BBL l)=some (BBL l):=Sg (fun _=>Ajk _) l
theorem R6 {α:Type} {f g:α→AV} {al:Bool} {k b n c off:Nat} {l:List α} {cs:List AV} (hg:h.get b=some cs) (ht:takeN cs off n=some (l.map f)) (hn:n=l.length) (hf:∀ x∈l,snap h al k (f x)=some (g x)) :
  snap h al (k+1) (.sl b off n c 1)=some (TL g l):=by
 simp only [snap,hg,Nat.mul_one,ht,Qy hf]
 split
 ·rename_i h0
  rw [h0] at hn
  rw [List.length_eq_zero_iff.1 hn.symm]
  rfl
 ·simp [TL,hn]
theorem F8 {α:Type} {f:α→AV} {al:Bool} {k b n c:Nat} {l:List α} (hg:h.get b=some (l.map f)) (hn:n=l.length) (hf:∀ x,snap h al k (f x)=some (f x)) :
  snap h al (k+1) (.sl b 0 n c 1)=some (TL f l):=R6 hg (Sw (by simp [hn])) hn (fun x _=>hf x)
end
section
variable {P:Program}
theorem Nx {id:Nat} {l:List Oper} {Q:Out→Regs→Heap→Prop} {r:Regs} {h:Heap} (hw:Bn P l.toArray (Q .norm) l.length (Array.replicate l.length false) r h):wpc P (.region id l.toArray true) Q r h:=(by simpa using hw:Bn P l.toArray (Q .norm) l.toArray.size (Array.replicate l.toArray.size false) r h)
def mid {α:Type} (Z A:List α) (i:Nat):List α:=Z.take i ++ A.drop i
section
variable {α:Type} {Z A:List α} {i:Nat}
@[simp] theorem Ve:mid Z A 0=A:=by simp [mid]
theorem F7 (hl:Z.length=A.length):mid Z A A.length=Z:=by simp [mid,←hl]
@[simp] theorem H8 (hl:Z.length=A.length) (hi:i≤A.length):(mid Z A i).length=A.length:=by simp [mid];omega
theorem Ug (hl:Z.length=A.length) (hi:i≤A.length):(mid Z A i)[i]? = A[i]? := by
 simp only [mid]
 rw [List.getElem?_append_right (by simp;omega)]
 simp only [List.length_take,List.getElem?_drop]
 congr 1
 omega
theorem Gm (hl:Z.length=A.length) (hi:i < A.length) {z:α} (hz:Z[i]? = some z):(mid Z A i).set i z=mid Z A (i+1):=by
 obtain ⟨hiz,rfl⟩:=List.getElem?_eq_some_iff.1 hz
 apply List.ext_getElem?
 intro j
 simp only [mid,List.getElem?_set,List.length_append,List.length_take,List.length_drop]
 by_cases hj:i=j
 ·subst hj
  rw [if_pos rfl,if_pos ω,List.getElem?_append_left (by simp;omega),List.getElem?_take,if_pos ω,List.getElem?_eq_getElem hiz]
 ·rw [if_neg hj]
  by_cases h2:j < i
  ·rw [List.getElem?_append_left (by simp;omega),List.getElem?_append_left (by simp;omega),List.getElem?_take,List.getElem?_take,if_pos h2,if_pos ω]
  ·rw [List.getElem?_append_right (by simp;omega),List.getElem?_append_right (by simp;omega)]
   simp only [List.length_take,List.getElem?_drop]
   congr 1
   omega
end
end
section
variable {P:Program} {h:Heap} {t xt:TypeId}
def apT (P:Program) (t xt:TypeId):Bool:=match elT P t with
 | some e=>(match szT P e with|some z=>z == 1|none=>false) && appT P e xt 1 && (match byT P e with|some b=>decide (b≤64)|none=>false) && (match B7 P e with|some z=>z.atom|none=>false)
 | none=>false
theorem Nh (ha:apT P t xt=true):∃ e bytes z,elT P t=some e∧szT P e=some 1∧appT P e xt 1=true∧byT P e=some bytes∧bytes≤64∧B7 P e=some z∧z.atom=true:=by
 unfold apT at ha
 split at ha
 ·rename_i e he
  simp only [Bool.and_eq_true] at ha
  obtain ⟨⟨⟨h1,h2⟩,h3⟩,h4⟩:=ha
  split at h1
  ·split at h3
   ·split at h4
    ·rename_i z hz _ b hb _ za hza
     exact ⟨e,b,za,he,by rw [hz];congr 1;simpa using h1,h2,hb,by simpa using h3,hza,h4⟩
    ·cases h4
   ·cases h3
  ·cases h1
 ·cases ha
theorem Bt (ha:apT P t xt=true) {y:AV} (hy:y.atom=true):C8 P h t 1 [(0,y)]=some (.sl h.next 0 1 1 1,h.alloc [y]):=by
 obtain ⟨e,bytes,z,he,hz,hap,hb,hb2,hza,hat⟩:=Nh ha
 simp [C8,Bu he,hz,Fu,hza,Mr,G9 hat,G9 hy,Nj,hy]
theorem H7 (ha:apT P t xt=true) {x y:AV} {xs:List AV} (hx:Own h x xs) (hn:xs.length < 2 ^ 40) (hy:y.atom=true) :
  ∃ x' h',Bm P (h.alloc [y]) t xt x (.sl h.next 0 1 1 1)=some (x',h')∧Own h' x' (xs ++ [y])∧h.next≤h'.next∧(x'.atom=true∧∀ q off n c z,x' = .sl q off n c z→h.next < q) ∧
   ∀ k zs,h.get k=some zs→(∀ off n c z,x≠.sl k off n c z)→h'.get k=some zs:=by
 obtain ⟨e,bytes,z,he,hz,hap,hb,hb2,hza,hat⟩:=Nh ha
 have hf:Ca (h.alloc [y]) 1 1 (.sl h.next 0 1 1 1)=some [y]:=by simp [Ca,Heap.Aa]
 have hg:∀ k zs,h.get k=some zs→(h.alloc [y]).get k=some zs:=fun k zs hk=>Heap.Ag hk
 rcases hx with ⟨rfl,rfl⟩|⟨b,rfl,hb'⟩
 ·refine ⟨.sl (h.next+1) 0 1 1 1,(h.alloc [y]).alloc [y],?_,.inr ⟨h.next+1,rfl,Heap.A9 (h.alloc [y]) [y]⟩,by simp;omega,⟨rfl,fun q off n c z e=>by cases e;omega⟩,fun k zs hk _=>Heap.Ag (hg k zs hk)⟩
  have h64:bytes≤2 ^ 47:=by omega
  simp [Bm,Bu he,hz,hb,hap,hf,hy,AV.len?,h64]
 ·have hne:b≠h.next:=Nat.ne_of_lt (Heap.Ah hb')
  have hnx:b < (h.alloc [y]).next:=by have:=Heap.Ah hb';simp;omega
  refine ⟨.sl (h.next+1) 0 (xs.length+1) (xs.length+1) 1,((h.alloc [y]).kill b).alloc (xs ++ [y]),?_,.inr ⟨h.next+1,μ,?_⟩,by simp;omega,⟨rfl,fun q off n c z e=>by cases e;omega⟩,fun k zs hk hkb=> ?_⟩
  ·have h64:(xs.length+1) * bytes≤2 ^ 47:=by
    have:(xs.length+1) * bytes≤(2 ^ 40) * 64:=Nat.mul_le_mul ω hb2
    omega
   simp [Bm,Bu he,hz,hb,hap,hf,hy,AV.len?,h64,hg b xs hb']
   rw [if_neg ω,if_pos ω]
  ·exact Heap.A9 ((h.alloc [y]).kill b) _
  ·have hkb':k≠b:=fun e=>hkb 0 xs.length xs.length 1 (by rw [e])
   have:((h.alloc [y]).kill b).get k=some zs:=by rw [Heap.Ek,if_neg hkb',hg k zs hk]
   exact Heap.Ag this
theorem A61 (ha:apT P t xt=true) {l:List UInt8} (hl:l≠[]) (hn:l.length < 2 ^ 40):Bm P h t xt .nilSl (S l)=some (.sl h.next 0 l.length l.length 1,h.alloc (l.map B8)):=by
 obtain ⟨e,bytes,z,he,hz,hap,hb,hb2,hza,hat⟩:=Nh ha
 have hf:Ca h 1 l.length (S l)=some (l.map B8):=by
  simp [Ca,S,ByteArray.size]
  exact fun _ _=>rfl
 have h64:l.length * bytes≤2 ^ 47:=by
  have:l.length * bytes≤(2 ^ 40) * 64:=Nat.mul_le_mul ω hb2
  omega
 have hlen:(S l).len? = some l.length:=by simp [S,AV.len?,ByteArray.size]
 simp [Bm,Bu he,hz,hb,hap,hlen,hf,hl,h64]
 omega
theorem Own.snap {α:Type} {f:α→AV} {al:Bool} {k:Nat} {x:AV} {l:List α} (ho:Own h x (l.map f)) (hf:∀ x,X.snap h al k (f x)=some (f x)):X.snap h al (k+1) x=some (TL f l):=by
 rcases ho with ⟨rfl,h0⟩|⟨b,rfl,hg⟩
 ·simp at h0;subst h0;rfl
 ·exact F8 hg μ hf
theorem Y8 {α β:Type} {l:List α} {i:Nat} {x:α} (f:α→β) (hx:l[i]? = some x):(l.take (i+1)).map f=(l.take i).map f ++ [f x]:=by
 obtain ⟨hi,rfl⟩:=List.getElem?_eq_some_iff.1 hx
 rw [List.take_succ_eq_append_getElem hi,List.map_append]
 rfl
theorem Px {α:Type} {l:List α} {i:Nat} {x:α} {p:α→Prop} (ha:∀ y∈l.take i,p y) (hx:l[i]? = some x) (hp:p x):∀ y∈l.take (i+1),p y:=by
 obtain ⟨hi,rfl⟩:=List.getElem?_eq_some_iff.1 hx
 intro y hy
 rw [List.take_succ_eq_append_getElem hi] at hy
 rcases List.mem_append.1 hy with hm|hm
 ·exact ha y hm
 ·simp at hm;subst hm;exact hp
@[simp] theorem Akq {y d:Nat} : Bq y none d=some d:=id rfl
@[simp] theorem A34 {y d:Nat} {k:IntKind} {i:Int} : Bq y (some (.int k i)) d=if 0≤i∧i≤y then some i.toNat else none:=id rfl
@[simp] theorem sliceX_TL {α:Type} {f:α→AV} (hz:(elT P t).bind (szT P)=some 1) {l:List α} {lo hi:Option AV} :
  F9 P t (TL f l) lo hi none=(Bq l.length hi l.length).bind fun b=>(Bq b lo 0).map fun a=>TL f ((l.take b).drop a):=by
 obtain ⟨e,he,hz⟩:=Option.bind_eq_some_iff.1 hz
 simp only [F9,Bu he,hz,TL]
 simp
 cases hb:Bq l.length hi l.length with
 | none=>rfl
 | some b =>
  have hbl:b≤l.length:=by
   cases hi with
   | none=>simp at hb;omega
   | some v =>
    unfold Bq at hb
    cases v<;>simp at hb
    omega
  simp only [Option.bind_some]
  cases ha:Bq b lo 0 with
  | none=>rfl
  | some a =>
   simp
   refine ⟨ω,?_⟩
   rw [List.drop_take]
theorem Own.nil:Own h .nilSl []:= .inl ⟨rfl,rfl⟩
end
section
variable {P:Program} {h:Heap} {I:Nat→Prop} {ρ : BMap} {w:World}
def Py (F:Nat→AV):Prop:= ∀ (w:World) (I I2:Nat→Prop) (ρ ρ2:BMap) (b b2:Nat) (v:Value), ρ b=ρ2 b2→VR w I ρ (F b) v→VR w I2 ρ2 (F b2) v
theorem Py.sl (n c z:Nat):Py fun b=> .sl b 0 n c z:=by
 intro w I I2 ρ ρ2 b b2 v e hv
 cases hv with
 | sl _ _ _ _ _ B o o' C cs e' fz hρ ho hl hC hg hs=>exact .sl b2 0 n c z B o o' C cs e' fz (by rw [←e];exact hρ) ho hl hC hg hs
theorem Py.tup {F:Nat→AV} (hF:Py F) {y:AV} {u:Value} {k:Nat} (hy:rig k y=some u):Py fun b=> .tup [F b,y]:=by
 intro w I I2 ρ ρ2 b b2 v e hv
 obtain ⟨us,rfl,hc⟩:=Cells.A27 hv
 match us,hc.len,hc with
 | ⟨[u1,u2]⟩,_,hc =>
  have h1:=hF w I I2 ρ ρ2 b b2 u1 e (hc.ok 0 _ _ rfl rfl)
  have h2:=(Tu k y u hy).2 w I ρ u2 (hc.ok 1 _ _ rfl rfl)
  subst h2
  have:=Cells.cons h1 (Cells.cons ((Tu k y _ hy).1 w I2 ρ2) Cells.nil)
  exact .tup _ _ this.arr.1 this.arr.2
theorem CSem.fresh {f:FuncId} {args args' cells:List AV} {F:Nat→AV} {k n:Nat} (hs:mapL (snap h true k) args=some args') (hF:Py F) (hr:∀ c∈cells,∃ v,rig n c=some v)
  (hc:CSem P f args' Heap.empty fun x' h'=> ∃ b,x'=F b∧h'.get b=some cells):CSem P f args h fun x' h'=>x'=F h.next∧h'=h.alloc cells:=by
 refine ⟨hc.1,fun I ρ w cargs R0 ha=> ?_⟩
 have R:=R0.rel
 obtain ⟨h1,h2⟩:=A5f R hs ha
 refine (hc.2 _ Gn w cargs (RelL.empty h1) h2).mono ?_
 rintro e w' ⟨v,x',h',I', ρ',rfl,⟨b,rfl,hb⟩,R1,hv,G⟩
 have R':=R1.rel
 have hown:∀ B,C9 ρ h B→B < w.heap.size:=fun B=>C9.lt R
 have old:∀ B,B < w.heap.size→w'.heap[B]? = w.heap[B]? := fun B hB=>G.block B hB (G7 B) Sh Sj
 have new:∀ B o, ρ' b=some (B,o)→w.heap.size≤B:=fun B o e=>(G.owned B ⟨b,cells,o,hb,e⟩).resolve_left (G7 B)
 have hlt:∀ B o, ρ' b=some (B,o)→B < w'.heap.size:=fun B o e=>by
  obtain ⟨cs,e',fz,g1,_⟩:=R'.cont b cells B o hb e
  exact (Array.getElem?_eq_some_iff.1 g1).1
 have mapo:∀ j,j≠h.next→(if j=h.next then ρ' b else ρ j)=ρ j:=fun j hj=>if_neg hj
 have K:E7 I ρ w I (fun j=>if j=h.next then ρ' b else ρ j) w':=by
  refine ⟨fun B hB=>⟨hB,old B (R.imm B hB).1⟩,fun j x hj=> ?_,fun B cs e fz hg=>⟨cs,e,fz,by rw [old B (Array.getElem?_eq_some_iff.1 hg).1];exact hg,rfl⟩⟩
  have:=R.dom j x hj
  rw [if_neg ω]
  exact hj
 have ownd:∀ B,C9 (fun j=>if j=h.next then ρ' b else ρ j) (h.alloc cells) B→C9 ρ h B∨w.heap.size≤B:=by
  rintro B ⟨j,cs,o,hg,hj⟩
  rw [Heap.Aa] at hg
  replace hj:(if j=h.next then ρ' b else ρ j)=some (B,o):=hj
  by_cases hjn:j=h.next
  ·rw [if_pos hjn] at hj;exact .inr (new B o hj)
  ·rw [if_neg hjn] at hg hj;exact .inl ⟨j,cs,o,hg,hj⟩
 have G2:Grow I ρ w h I (fun j=>if j=h.next then ρ' b else ρ j) w' (h.alloc cells):=⟨G.os,G.tape,G.output,G.size,μ,fun _ h=>h,K.map,fun B hB _=>old B hB,G.cells,ownd,fun _ h=> .inl h⟩
 suffices R2:Rel I (fun j=>if j=h.next then ρ' b else ρ j) w' (h.alloc cells) from
  ⟨v,F h.next,h.alloc cells,I,fun j=>if j=h.next then ρ' b else ρ j,rfl,⟨rfl,rfl⟩,R0.step R2 G2 rfl rfl,hF w' I' I ρ' _ b h.next v μ hv,G2.toL rfl rfl⟩
 refine ⟨?_,?_,?_,?_⟩
 ·intro j x hj
  by_cases hjn:j=h.next
  ·subst hjn;simp
  ·rw [if_neg hjn] at hj
   have:=R.dom j x hj
   simp;omega
 ·intro j cs B o hg hj
  rw [Heap.Aa] at hg
  by_cases hjn:j=h.next
  ·rw [if_pos hjn] at hg hj
   cases hg
   obtain ⟨ds,e',fz,g1,g2,g3⟩:=R'.cont b cells B o hb hj
   refine ⟨ds,e',fz,g1,g2,fun i x hx=> ?_⟩
   obtain ⟨u,u1,u2⟩:=g3 i x hx
   obtain ⟨v',hv'⟩:=hr x (List.mem_of_getElem? hx)
   have:=(Tu n x v' hv').2 _ _ _ _ u2
   subst this
   exact ⟨u,u1,(Tu n x u hv').1 _ _ _⟩
  ·rw [if_neg hjn] at hg hj
   obtain ⟨ds,e',fz,g1,g2,g3⟩:=R.cont j cs B o hg hj
   refine ⟨ds,e',fz,by rw [old B (Array.getElem?_eq_some_iff.1 g1).1];exact g1,g2,g3.keep K⟩
 ·intro j j' c c' B o o' hg hg' hj hj'
  rw [Heap.Aa] at hg hg'
  by_cases hjn:j=h.next<;>by_cases hjn':j'=h.next
  ·rw [hjn,hjn']
  ·rw [if_pos hjn] at hj
   rw [if_neg hjn'] at hg' hj'
   have a1:=new B o hj
   have a2:=hown B ⟨j',c',o',hg',hj'⟩
   omega
  ·rw [if_pos hjn'] at hj'
   rw [if_neg hjn] at hg hj
   have a1:=new B o' hj'
   have a2:=hown B ⟨j,c,o,hg,hj⟩
   omega
  ·rw [if_neg hjn] at hg hj
   rw [if_neg hjn'] at hg' hj'
   exact R.inj j j' c c' B o o' hg hg' hj hj'
 ·intro B hB
  refine ⟨Nat.lt_of_lt_of_le (R.imm B hB).1 G.size,fun ho=> ?_⟩
  rcases ownd B ho with h3|h3
  ·exact (R.imm B hB).2 h3
  ·have:=(R.imm B hB).1;omega
def FrQ (l:List (List UInt8)) (e:Int) (x:AV) (h:Heap):Prop :=
 (∃ b,x = .tup [.sl b 0 l.length l.length 1,.int .i64 e]∧h.get b=some (l.map S))∨(l=[]∧(x = .tup [.nilSl,.int .i64 e]∨x = .tup [.vec 0 [],.int .i64 e]))
theorem FrQ.nil {e:Int} : FrQ [] e (.tup [.nilSl,.int .i64 e]) h:= .inr ⟨rfl,.inl rfl⟩
theorem FrQ.vec {e:Int} : FrQ [] e (.tup [.vec 0 [],.int .i64 e]) h:= .inr ⟨rfl,.inr rfl⟩
theorem FrQ.sl {l:List (List UInt8)} {e:Int} {b n:Nat} (hn:n=l.length) (hg:h.get b=some (l.map S)):FrQ l e (.tup [.sl b 0 n n 1,.int .i64 e]) h:= .inl ⟨b,by rw [hn],hg⟩
theorem FrQ.own {l:List (List UInt8)} {e:Int} {x:AV} (ho:Own h x (l.map S)):FrQ l e (.tup [x,.int .i64 e]) h:=by
 rcases ho with ⟨rfl,h0⟩|⟨b,rfl,hg⟩
 ·exact .inr ⟨by simpa using h0,.inl rfl⟩
 ·exact .sl μ hg
def rL (l:List (List UInt8)) (e:Int):AV:= .tup [SL l,.int .i64 e]
def Jj (P:Program) (f:FuncId) (args:List AV) (l:List (List UInt8)) (e:Int):Prop:=CSem P f args Heap.empty (FrQ l e)
theorem A87 (l:List (List UInt8)):∀ c∈l.map S,∃ v,rig 1 c=some v:=by
 intro c hc
 obtain ⟨x,_,rfl⟩:=List.mem_map.1 hc
 exact ⟨_,rfl⟩
theorem Jj.pure {f:FuncId} {args:List AV} {l:List (List UInt8)} {e:Int} (hf:Jj P f args l e):As P f args (rL l e):=by
 refine As.Ba (k:=3) (hf.mono ?_)
 rintro x h (⟨b,rfl,hg⟩|⟨rfl,rfl|rfl⟩)
 ·have hs:X.snap h false 2 (.sl b 0 l.length l.length 1)=some (SL l):=F8 hg rfl (fun _=>rfl)
  simp [hs,rL]
 ·rfl
 ·rfl
def ownR (h:Heap) (l:List (List UInt8)) (e:Int):AV:=if l=[] then .tup [.vec 0 [],.int .i64 e] else .tup [.sl h.next 0 l.length l.length 1,.int .i64 e]
def ownH (h:Heap) (l:List (List UInt8)):Heap:=if l=[] then h else h.alloc (l.map S)
theorem Jj.call {f:FuncId} {args args':List AV} {l:List (List UInt8)} {e:Int} (hf:Jj P f args' l e) {k:Nat} (hs:mapL (snap h true k) args=some args') :
  CSem P f args h fun x' h'=>x'=ownR h l e∧h'=ownH h l:=by
 by_cases hl:l=[]
 ·subst hl
  exact (hf.pure.call hs).mono (by rintro x h' ⟨rfl,rfl⟩;exact ⟨rfl,rfl⟩)
 ·refine (CSem.fresh (n:=1) (F:=fun b=> .tup [.sl b 0 l.length l.length 1,.int .i64 e]) hs ((Py.sl _ _ _).tup (k:=1) rfl) (A87 l) (hf.mono ?_)).mono ?_
  ·rintro x h (⟨b,rfl,hg⟩|⟨h0,_⟩)
   ·exact ⟨b,rfl,hg⟩
   ·exact (hl h0).elim
  ·rintro x h' ⟨rfl,rfl⟩
   simp [ownR,ownH,hl]
theorem Ad0 (h:Heap) (l:List (List UInt8)) (e:Int):∃ x,ownR h l e = .tup [x,.int .i64 e]∧(l=[]∧x = .vec 0 []∨(ownH h l).get h.next=some (l.map S)∧x = .sl h.next 0 l.length l.length 1) ∧
  (∀ al k,snap (ownH h l) al (k+2) x=some (TL S l))∧(∀ b cs,h.get b=some cs→(ownH h l).get b=some cs)∧FrQ l e (.tup [x,.int .i64 e]) (ownH h l):=by
 by_cases hl:l=[]
 ·subst hl
  exact ⟨.vec 0 [],by simp [ownR],.inl ⟨rfl,rfl⟩,fun _ _=>rfl,fun b cs hg=>by simpa [ownH] using hg,.vec⟩
 ·refine ⟨.sl h.next 0 l.length l.length 1,by simp [ownR,hl],.inr ⟨?_,rfl⟩,fun al k=> ?_,fun b cs hg=> ?_,?_⟩
  ·simp [ownH,hl,Heap.A9]
  ·exact F8 (by simp [ownH,hl,Heap.A9]) rfl (fun _=>rfl)
  ·simp only [ownH,hl,if_false];exact Heap.Ag hg
  ·exact .sl rfl (by simp [ownH,hl,Heap.A9])
end
section
variable {P:Program} {ops:Array Oper} {K:Regs→Heap→Prop} {r r':Regs} {h h':Heap} {f:Nat} {l:Array Bool}
def anyI (P:Program) (ops:Array Oper) (K:Regs→Heap→Prop) (f:Nat) (l:Array Bool) (o:Option Oper) (r:Regs) (h:Heap):Prop:=match o with
 | none=>Bn P ops K f l r h
 | some o=> ∃ b,Ch ops r o=some b∧(b=true→wpO P o (Bn P ops K f l) r h)∧(b=false→Bn P ops K f l (Av r o.dst (.tup [])) h)
@[simp] theorem anyI_some {dst:Option Tmp} {op:Op} {type:TypeId} {pos:String} {after:Array Edge} : anyI P ops K f l (some ⟨dst,op,type,pos,after,none⟩) r h=wpI P op dst (Bn P ops K f l) r h:=by
 have:=Pq (P:=P) (ops:=ops) (K:=Bn P ops K f l) (r:=r) (h:=h) (rest:=[]) (dst:=dst) (op:=op) (type:=type) (pos:=pos) (after:=after)
 rw [show wpI P op dst (Bn P ops K f l) r h=wpI P op dst (wpOs P ops (Bn P ops K f l) []) r h from rfl,←this]
 rfl
theorem Be (rd:List Nat) (hrd:Region.ready .any ops l=rd) (hne:rd≠[]) (hall:∀ i∈rd,anyI P ops K f (l.setIfInBounds i true) ops[i]? r h):Bn P ops K (f+1) l r h :=
 ⟨fun e=>(hne (hrd ▸ e)).elim,fun i hi=>by rw [hrd] at hi;exact hall i hi⟩
theorem Gf (hrd:Region.ready .any ops l=[]) (hk:K r h):Bn P ops K 0 l r h:=⟨hrd,hk⟩
@[congr] theorem Ajm (e1:r=r') (e2:h=h'):Bn P ops K f l r h=Bn P ops K f l r' h':=by rw [e1,e2]
end
namespace Tr
variable {α:Type}
theorem A0g (v:Option α):∀ (f:Nat) (t:Tr α) (k:Nat),k≤f→setF f t k v=setF k t k v:=by
 intro f
 induction f using Nat.strongRecOn with
 | _ f ih =>
  intro t k hk
  cases f with
  | zero =>
   obtain rfl:k=0:=by omega
   rfl
  | succ f =>
   cases k with
   | zero=>rfl
   | succ k =>
    have hk0:¬(k+1=0):=by omega
    simp only [setF,hk0,if_false]
    by_cases h1:(k+1) % 2=1
    ·simp only [h1,if_true]
     rw [ih f ω _ _ ω,ih k ω _ _ ω]
    ·simp only [h1,if_false]
     rw [ih f ω _ _ ω,ih k ω _ _ ω]
@[simp] theorem A0h (v:Option α) (l r:Tr α):(Tr.node v l r).left=l:=rfl
@[simp] theorem Xz (v:Option α) (l r:Tr α):(Tr.node v l r).right=r:=rfl
@[simp] theorem A5g (v:Option α) (l r:Tr α):(Tr.node v l r).val=v:=rfl
theorem A29 (t:Tr α) (k:Nat) (v:Option α):t.set k v=if k=0 then .node v t.left t.right else if k % 2=1 then .node t.val (t.left.set (k / 2) v) t.right else .node t.val t.left (t.right.set (k / 2 - 1) v):=by
 unfold set
 cases k with
 | zero=>rfl
 | succ k =>
  have hk0:¬(k+1=0):=by omega
  simp only [setF,hk0,if_false]
  by_cases h1:(k+1) % 2=1
  ·simp only [h1,if_true]
   rw [A0g v k _ _ ω]
  ·simp only [h1,if_false]
   rw [A0g v k _ _ ω]
theorem set_comm:∀ (n:Nat) (t:Tr α) (i j:Nat) (u v:Option α),i≤n→j≤n→i≠j→(t.set i u).set j v=(t.set j v).set i u:=by
 intro n
 induction n using Nat.strongRecOn with
 | _ n ih =>
  intro t i j u v hi hj hne
  rw [A29 (t.set i u),A29 (t.set j v),A29 t i,A29 t j]
  by_cases i0:i=0
  ·have j0:j≠0:=by omega
   subst i0
   by_cases j1:j % 2=1<;>simp [j0,j1]
  ·by_cases j0:j=0
   ·subst j0
    by_cases i1:i % 2=1<;>simp [i0,i1]
   ·by_cases i1:i % 2=1<;>by_cases j1:j % 2=1
    ·simp only [i0,j0,i1,j1,if_true,if_false,A0h,Xz,A5g]
     rw [ih (n - 1) ω t.left (i / 2) (j / 2) u v ω ω ω]
    ·simp [i0,j0,i1,j1]
    ·simp [i0,j0,i1,j1]
    ·simp only [i0,j0,i1,j1,if_false,A0h,Xz,A5g]
     rw [ih (n - 1) ω t.right (i / 2 - 1) (j / 2 - 1) u v ω ω ω]
end Tr
theorem Qs (r:Regs) {x y:Option Tmp} (v u:AV) (h:∀ d,x=some d→y≠some d):Av (Av r x v) y u=Av (Av r y u) x v:=by
 cases x with
 | none=>rfl
 | some d =>
  cases y with
  | none=>rfl
  | some e =>
   have hne:d≠e:=fun he=>h d rfl (he ▸ rfl)
   exact Tr.set_comm (max d e) r d e _ _ (Nat.le_max_left _ _) (Nat.le_max_right _ _) hne
section
variable {P:Program} {ops:Array Oper} {r r':Regs} {h h':Heap}
theorem Acd {dst:Option Tmp} {v:AV} {x:Operand} (hx:∀ d,dst=some d→x≠.tmp d):Ae (Av r dst v) x=Ae r x:=by
 cases dst with
 | none=>rfl
 | some d =>
  cases x with
  | tmp t =>
   have hne:t≠d:=fun e=>hx d rfl (e ▸ rfl)
   simp [Ae,Av,Ec,hne]
  | _=>rfl
theorem Eh {l:List Operand} (hx:∀ x∈l,Ae r x=Ae r' x):Bh r l=Bh r' l:=by
 induction l with
 | nil=>rfl
 | cons x l ih=>simp only [Bh];rw [hx x μ,ih (fun y hy=>hx y (by simp [hy]))]
theorem A2a {l:List (Nat×Operand)} (hx:∀ x∈l.map (·.2),Ae r x=Ae r' x):Fw r l=Fw r' l:=by
 induction l with
 | nil=>rfl
 | cons x l ih =>
  obtain ⟨i,x⟩:=x
  simp only [Fw];rw [hx x μ,ih (fun y hy=>hx y (by simp at hy ⊢;exact .inr hy))]
theorem Qu {o:Option Operand} (hx:∀ x∈o.toArray,Ae r x=Ae r' x):optX r o=optX r' o:=by
 cases o with
 | none=>rfl
 | some x=>simp only [optX];rw [hx x μ]
theorem Lv {op:Op} (hx:∀ x∈op.operands,Ae r x=Ae r' x):opB P r h op=opB P r' h op:=by
 unfold opB
 split<;>simp only [Op.operands,Call.operands] at hx
 all_goals first
  | rfl
  | (rw [hx _ μ];done)
  | (rename_i a b c;rw [hx a μ,hx b μ,hx c μ];done)
  | (rename_i a b;rw [hx a μ,hx b μ];done)
  | (rename_i a b _;rw [hx a μ,hx b μ];done)
  | (rename_i ps;rw [A2a (r:=r) (r':=r') (l:=ps.toList) (fun x hm=>hx x (by simpa using hm))];done)
  | (rename_i a b;rw [Eh (r:=r) (r':=r') (l:=a.toList) (fun x hm=>hx x (by simp at hm ⊢;exact .inl hm)),Eh (r:=r) (r':=r') (l:=b.toList) (fun x hm=>hx x (by simp at hm ⊢;exact .inr hm))];done)
  | (rename_i a b c d;rw [hx a μ,Qu (r:=r) (r':=r') (o:=b) (fun x hm=>hx x (by simp only [Array.mem_append];exact .inl (.inl (.inr hm)))),Qu (r:=r) (r':=r') (o:=c) (fun x hm=>hx x (by simp only [Array.mem_append];exact .inl (.inr hm))),Qu (r:=r) (r':=r') (o:=d) (fun x hm=>hx x (by simp only [Array.mem_append];exact .inr hm))];done)
  | (rename_i a _;rw [Eh (r:=r) (r':=r') (l:=a.toList) (fun x hm=>hx x (by simpa using hm))];done)
  | (rename_i a _ _;rw [Eh (r:=r) (r':=r') (l:=a.toList) (fun x hm=>hx x (by simpa using hm))];done)
theorem Eu {op:Op} (hx:∀ x∈op.operands,Ae r x=Ae r' x):Ay r op=Ay r' op:=by
 unfold Ay
 split
 ·rename_i f args ts
  simp only [Op.operands,Call.operands] at hx
  rw [hx f μ,Eh (r:=r) (r':=r') (l:=args.toList) (fun x hm=>hx x (by simp at hm ⊢;exact .inr hm))]
 ·rfl
theorem Y0 {op:Op} (hx:∀ x∈op.operands,Ae r x=Ae r' x):yldX r op=yldX r' op:=by
 unfold yldX
 split
 ·rename_i f args ts
  simp only [Op.operands,Call.operands] at hx
  rw [hx f μ,Eh (r:=r) (r':=r') (l:=args.toList) (fun x hm=>hx x (by simp at hm ⊢;exact .inr hm))]
 ·rfl
theorem A0j {op:Op} {K:AV→Heap→Prop} (hx:∀ x∈op.operands,Ae r x=Ae r' x):spO P op K r h=spO P op K r' h:=by
 unfold spO
 split
 ·rename_i x m args ts
  simp only [Op.operands,Call.operands] at hx
  rw [hx x μ,Eh (r:=r) (r':=r') (l:=args.toList) (fun x hm=>hx x (by simp at hm ⊢;exact .inr hm))]
 ·exact Ace hx
theorem Fm {o:Oper} {dst:Option Tmp} {v:AV} (h:∀ d,dst=some d→d ∉ o.looksAt ops):∀ x∈o.op.operands,Ae (Av r dst v) x=Ae r x:=by
 intro x hx
 refine Acd fun d hd e=>h d hd ?_
 subst e
 exact List.mem_append_left _ (List.mem_filterMap.2 ⟨.tmp d,by simpa using hx,rfl⟩)
theorem L9 {o:Oper} {dst:Option Tmp} {v:AV} (h:∀ d,dst=some d→d ∉ o.looksAt ops):Ch ops (Av r dst v) o=Ch ops r o:=by
 unfold Ch
 split
 ·rfl
 ·rename_i j want hg
  split
  ·rfl
  ·rename_i t ht
   cases dst with
   | none=>rfl
   | some d =>
    have hne:t≠d:=by
     intro e
     subst e
     refine h t rfl (List.mem_append_right _ ?_)
     rw [hg]
     simp [ht]
    simp only [Av,Ec,if_neg hne]
def C6:Op→Bool
 | .move _ | .assign _ | .pick _ _ _ | .build _ _ | .nilCheck _ | .binOp _ _ _ _ _ | .unOp _ _ _ | .makeFunc (.func _) _ _ | .slice _ _ _ _ _ | .fieldAddr _ _ _ | .field _ _ _
 | .indexAddr _ _ _ | .index _ _ _ | .extract _ _ | .makeInterface _ _ | .typeAssert _ _ _ _=>true
 | .call { callee:= .builtin .len,.. } | .call { callee:= .builtin .min,.. } | .call { callee:= .builtin .max,.. } => true
 | _=>false
theorem Ag1 {α:Type} {o:Option α} {f:α→AV} {v:AV} {h0:Heap} (e:o.map (fun a=>(f a,h))=some (v,h0)):h0=h∧∀ h1:Heap,o.map (fun a=>(f a,h1))=some (v,h1):=by
 cases o with
 | none=>cases e
 | some a=>cases e;exact ⟨rfl,fun _=>rfl⟩
theorem A5h {op:Op} (hr:C6 op=true) (h1:Heap):opB P r h1 op=((opB P r h op).map (·.1)).map fun v=>(v,h1):=by
 unfold C6 at hr
 split at hr
 case h_1 x=>simp only [opB];cases Ae r x<;>rfl
 case h_2 x=>simp only [opB];cases Ae r x<;>rfl
 case h_3 c x y =>
  simp only [opB]
  cases Ae r c with
  | none=>rfl
  | some c=>cases Ae r x with
   | none=>rfl
   | some x=>cases Ae r y with
    | none=>rfl
    | some y=>cases c<;>rfl
 case h_4 t ps =>
  simp only [opB]
  cases Fw r ps.toList with
  | none=>rfl
  | some q=>simp only [Option.bind_some];cases Ct P t q<;>rfl
 case h_5 x =>
  simp only [opB]
  cases Ae r x with
  | none=>rfl
  | some x=>cases x<;>rfl
 case h_6 bo t x y t2 =>
  simp only [opB]
  cases Ae r x with
  | none=>rfl
  | some x=>cases Ae r y with
   | none=>rfl
   | some y=>simp only [Option.bind_some];cases binX P bo t x y<;>rfl
 case h_7 uo t x =>
  simp only [opB]
  cases Ae r x with
  | none=>rfl
  | some x=>simp only [Option.bind_some];cases unX uo x<;>rfl
 case h_8 f xs ys =>
  simp only [opB]
  cases Bh r xs.toList with
  | none=>rfl
  | some x=>simp only [Option.bind_some];cases Bh r ys.toList<;>rfl
 case h_9 t x a b c =>
  simp only [opB]
  cases Ae r x with
  | none=>rfl
  | some x=>cases optX r a with
   | none=>rfl
   | some a=>cases optX r b with
    | none=>rfl
    | some b=>cases optX r c with
     | none=>rfl
     | some c=>simp only [Option.bind_some];cases F9 P t x a b c<;>rfl
 case h_10 t x n =>
  simp only [opB]
  cases Ae r x with
  | none=>rfl
  | some x=>simp only [Option.bind_some];cases A8 P t x n<;>rfl
 case h_11 t x n =>
  simp only [opB]
  cases Ae r x with
  | none=>rfl
  | some x=>simp only [Option.bind_some];cases K8 P t x n<;>rfl
 case h_12 t x y =>
  simp only [opB]
  cases Ae r x with
  | none=>rfl
  | some x=>cases Ae r y with
   | none=>rfl
   | some y=>simp only [Option.bind_some];cases Bx P t x y<;>rfl
 case h_13 t x y =>
  simp only [opB]
  cases Ae r x with
  | none=>rfl
  | some x=>cases Ae r y with
   | none=>rfl
   | some y=>simp only [Option.bind_some];cases Mk P t x y<;>rfl
 case h_14 x n =>
  simp only [opB]
  cases Ae r x with
  | none=>rfl
  | some x=>simp only [Option.bind_some];cases Gv x n<;>rfl
 case h_15 t x =>
  simp only [opB]
  cases Ae r x with
  | none=>rfl
  | some v =>
   simp only [Option.bind_some]
   split<;>rfl
 case h_16 x st t ok =>
  simp only [opB]
  cases Ae r x with
  | none=>rfl
  | some v =>
   simp only [Option.bind_some]
   cases Jc P t ok v<;>rfl
 case h_17 args ts =>
  simp only [opB]
  cases Bh r args.toList with
  | none=>rfl
  | some xs =>
   simp only [Option.bind_some]
   split
   ·rename_i x t _ _;cases lenX P t x<;>rfl
   ·rfl
 case h_18 args ts =>
  simp only [opB]
  cases Bh r args.toList with
  | none=>rfl
  | some xs =>
   simp only [Option.bind_some]
   split
   ·rename_i x y;cases My x y<;>rfl
   ·rfl
 case h_19 args ts =>
  simp only [opB]
  cases Bh r args.toList with
  | none=>rfl
  | some xs =>
   simp only [Option.bind_some]
   split
   ·rename_i x y;cases L7 x y<;>rfl
   ·rename_i x y z;cases Rv x y z<;>rfl
   ·rfl
 case h_20=>cases hr
theorem Qv {op:Op} (hr:C6 op=true) {v:AV} (e:opB P r h op=some (v,h')):h'=h∧∀ h1,opB P r h1 op=some (v,h1):=by
 have k:=fun h1=>A5h (P:=P) (r:=r) (h:=h) hr h1
 have kh:=k h
 rw [e] at kh
 simp at kh
 refine ⟨kh,fun h1=> ?_⟩
 rw [k h1,e]
 rfl
def Kj (op:Op):Bool:=C6 op || match op with | .load _ _=>true|_=>false
theorem Tv {op:Op} (hr:Kj op=true) {v:AV} (e:opB P r h op=some (v,h')):h'=h∧Ay r op=none:=by
 unfold Kj at hr
 simp only [Bool.or_eq_true] at hr
 rcases hr with hr|hr
 ·refine ⟨(Qv hr e).1,?_⟩
  unfold C6 at hr
  split at hr<;>first|rfl|cases hr
 ·split at hr
  ·simp only [opB] at e
   refine ⟨?_,rfl⟩
   cases ha:Ae r ‹Operand› with
   | none=>rw [ha] at e;cases e
   | some a=>rw [ha] at e;exact (Ag1 (f:=id) e).1
  ·cases hr
theorem Tw {op:Op} {K:AV→Heap→Prop} (hr:Kj op=true):spO P op K r h=False:=by
 unfold Kj at hr
 simp only [Bool.or_eq_true] at hr
 rcases hr with hr|hr
 ·unfold C6 at hr
  split at hr<;>first|rfl|cases hr
 ·split at hr
  ·rfl
  ·cases hr
theorem Ff {op:Op} (hr:C6 op=true):Ay r op=none:=by
 unfold C6 at hr
 split at hr<;>first|rfl|cases hr
def A9f (ops:Array Oper) (oi oj:Oper) (i:Nat):Bool :=
 oj.after.any (fun e=>Region.binds .any e && e.on == i) || (oi.apart ops oj && (C6 oi.op || Kj oj.op))
def A9g (ops:Array Oper) (listed:Array Bool) (i:Nat):Bool :=
 match ops[i]? with
 | none=>false
 | some oi=>Kj oi.op && oi.guard.isNone && (List.range ops.size).all fun j=>j == i || listed.getD j true || match ops[j]? with
   | some oj=>A9f ops oi oj i
   | none=>true
section
variable {K:Regs→Heap→Prop}
theorem A2b {i:Nat} {oi:Oper} {v:AV} (hi:ops[i]? = some oi) (hst:Kj oi.op=true) (hg:oi.guard=none) :
  ∀ (f:Nat) (listed:Array Bool) (r:Regs) (h:Heap),
   (∀ j oj,ops[j]? = some oj→j≠i→listed.getD j true=false→A9f ops oi oj i=true) →
   i∈Region.ready .any ops listed→opB P r h oi.op=some (v,h) →
   Bn P ops K f (listed.setIfInBounds i true) (Av r oi.dst v) h→Bn P ops K (f+1) listed r h:=by
 have here:∀ (f:Nat) (listed:Array Bool) (r:Regs) (h:Heap),opB P r h oi.op=some (v,h)→Bn P ops K f (listed.setIfInBounds i true) (Av r oi.dst v) h →
   anyI P ops K f (listed.setIfInBounds i true) ops[i]? r h:=by
  intro f listed r h hv H
  rw [hi]
  refine ⟨true,by simp [Ch,hg],fun _=> ?_,fun e=>by cases e⟩
  unfold wpO
  rw [(Tv hst hv).2]
  exact .inl ⟨v,h,hv,H⟩
 intro f
 induction f with
 | zero =>
  intro listed r h _ hr hv H
  refine ⟨fun e=>(by rw [e] at hr;cases hr),fun j hj=> ?_⟩
  by_cases hji:j=i
  ·subst hji;exact here _ _ _ _ hv H
  ·have:=ready_mono hj hji
   rw [H.1] at this
   cases this
 | succ f ih =>
  intro listed r h hfree hr hv H
  refine ⟨fun e=>(by rw [e] at hr;cases hr),fun j hj=> ?_⟩
  by_cases hji:j=i
  ·subst hji;exact here _ _ _ _ hv H
  ·obtain ⟨hjun,oj,hoj,hall⟩:=mem_ready.1 hj
   have hpass:=hfree j oj hoj hji hjun
   unfold A9f at hpass
   simp only [Bool.or_eq_true,Bool.and_eq_true,List.any_eq_true,Array.any_eq_true',beq_iff_eq] at hpass
   have hnot:¬∃ e,e∈oj.after∧Region.binds .any e=true∧e.on=i:=by
    rintro ⟨e,he,hb,heq⟩
    have h1:=hall e he hb
    have h0:=(mem_ready.1 hr).1
    rw [heq] at h1
    rcases Nat.lt_or_ge i listed.size with h'|h'
    ·simp [h'] at h0 h1;rw [h0] at h1;cases h1
    ·simp [Array.getElem?_eq_none h'] at h1
   obtain ⟨hap,hkind⟩:=hpass.resolve_left hnot
   obtain ⟨a1,a2,a3⟩:=Oper.apart_spec hap
   have h1:=H.2 j (ready_mono hj hji)
   rw [hoj] at h1 ⊢
   obtain ⟨b,hb,k1,k2⟩:=h1
   rw [L9 a1] at hb
   have hfree':∀ k ok,ops[k]? = some ok→k≠i→(listed.setIfInBounds j true).getD k true=false→A9f ops oi ok i=true:=fun k ok hk hki hun=>by
    refine hfree k ok hk hki ?_
    by_cases hjk:j=k
    ·subst hjk;exact hjun
    ·rw [getD_set_ne true hjk] at hun;exact hun
   have hops:∀ x∈oj.op.operands,Ae (Av r oi.dst v) x=Ae r x:=Fm a1
   have next:∀ (x:AV) (h':Heap),(C6 oi.op=true∨h'=h)→Bn P ops K f ((listed.setIfInBounds i true).setIfInBounds j true) (Av (Av r oi.dst v) oj.dst x) h' →
     Bn P ops K (f+1) (listed.setIfInBounds j true) (Av r oj.dst x) h':=by
    intro x h' hk H'
    refine ih (listed.setIfInBounds j true) (Av r oj.dst x) h' hfree' (ready_mono hr (Ne.symm hji)) ?_ ?_
    ·rw [Lv (Fm a3)]
     rcases hk with hk|rfl
     ·exact (Qv hk hv).2 h'
     ·exact hv
    ·rw [Array.setIfInBounds_comm _ _ hji,Qs r v x a2] at *
     exact H'
   refine ⟨b,hb,fun hbt=> ?_,fun hbf=> ?_⟩
   ·have k1:=k1 hbt
    unfold wpO at k1 ⊢
    rw [Eu hops] at k1
    split at k1
    ·rename_i g vs hc
     have hro:C6 oi.op=true:=hkind.resolve_right fun hs=>by
      unfold Kj at hs
      simp only [Bool.or_eq_true] at hs
      rcases hs with hs|hs
      ·rw [Ff hs] at hc;cases hc
      ·split at hs
       ·rename_i e;rw [e] at hc;cases hc
       ·cases hs
     exact k1.mono fun x h' k=>next x h' (.inl hro) k
    ·rename_i hc
     obtain ⟨l,vs,hy,k1⟩:=k1
     have hro:C6 oi.op=true:=hkind.resolve_right fun hs=>by
      unfold Kj at hs
      simp only [Bool.or_eq_true] at hs
      rcases hs with hs|hs
      ·rw [Ff hs] at hc;cases hc
      ·split at hs
       ·rename_i e;rw [e] at hc;cases hc
       ·cases hs
     rw [Y0 hops] at hy
     exact ⟨l,vs,hy,k1.mono fun x h' k=>next x h' (.inl hro) k⟩
    ·rename_i hc
     rcases k1 with ⟨x,h',hx,k⟩|k1
     ·rw [Lv hops] at hx
      refine .inl ⟨x,h',hx,next x h' ?_ k⟩
      rcases hkind with hk|hk
      ·exact .inl hk
      ·exact .inr (Tv hk hx).1
     ·rw [A0j hops] at k1
      refine .inr (Xy (fun x h' k=>next x h' ?_ k) k1)
      rcases hkind with hk|hk
      ·exact .inl hk
      ·rw [Tw hk] at k1;exact k1.elim
   ·exact next _ h (.inr rfl) (k2 hbf)
theorem A5j (i:Nat) {listed:Array Bool} {f:Nat} {dst:Option Tmp} {op:Op} {type:TypeId} {pos:String} {after:Array Edge} (hi:ops[i]? = some ⟨dst,op,type,pos,after,none⟩)
  (ht:A9g ops listed i=true) (hr:(Region.ready .any ops listed).contains i=true) (H:wpI P op dst (Bn P ops K f (listed.setIfInBounds i true)) r h):Bn P ops K (f+1) listed r h:=by
 unfold A9g at ht
 rw [hi] at ht
 simp only [Bool.and_eq_true] at ht
 obtain ⟨⟨hst,_⟩,hall⟩:=ht
 have hcal:∀ {v:AV} {h':Heap},opB P r h op=some (v,h')→h'=h∧Ay r op=none:=fun e=>Tv hst e
 have hv:∃ v,opB P r h op=some (v,h)∧Bn P ops K f (listed.setIfInBounds i true) (Av r dst v) h:=by
  have hc:Ay r op=none:=by
   unfold Kj at hst
   simp only [Bool.or_eq_true] at hst
   rcases hst with hs|hs
   ·exact Ff hs
   ·split at hs
    ·rfl
    ·cases hs
  unfold wpI at H
  rw [hc] at H
  rcases H with ⟨v,h',e,k⟩|H
  ·obtain ⟨rfl,_⟩:=hcal e
   exact ⟨v,e,k⟩
  ·rw [Tw hst] at H;exact H.elim
 obtain ⟨v,hv,H⟩:=hv
 refine A2b hi hst rfl f listed r h (fun j oj hj hji hun=> ?_) (by simpa using hr) hv H
 have hjs:j < ops.size:=by
  apply Nat.lt_of_not_ge
  intro hge
  rw [Array.getElem?_eq_none hge] at hj
  cases hj
 have:=List.all_eq_true.1 hall j (by simpa using hjs)
 simp only [hj,Bool.or_eq_true,beq_iff_eq,hji,false_or,hun,Bool.false_eq_true] at this
 exact this
def A5k (ops:Array Oper):List Nat→Array Bool→Bool
 | [],listed=>(Region.ready .any ops listed).isEmpty
 | i :: l,listed=>((Region.ready .any ops listed == [i]) || (A9g ops listed i && (Region.ready .any ops listed).contains i)) && A5k ops l (listed.setIfInBounds i true)
theorem Ajn:∀ (l:List Nat) (listed:Array Bool) (r:Regs) (h:Heap),A5k ops l listed=true→wpOs P ops K (l.filterMap (ops[·]?)) r h→Bn P ops K l.length listed r h:=by
 intro l
 induction l with
 | nil =>
  intro listed r h hp hw
  simp only [A5k,List.isEmpty_iff] at hp
  exact ⟨hp,hw⟩
 | cons i l ih =>
  intro listed r h hp hw
  simp only [A5k,Bool.and_eq_true,Bool.or_eq_true] at hp
  obtain ⟨hp1,hp2⟩:=hp
  have ih':=fun r h=>ih (listed.setIfInBounds i true) r h hp2
  have hsome:∃ o,ops[i]? = some o:=by
   have hm:i∈Region.ready .any ops listed:=by
    rcases hp1 with e|e
    ·rw [beq_iff_eq.1 e];simp
    ·simpa using e.2
   obtain ⟨_,o,ho,_⟩:=mem_ready.1 hm
   exact ⟨o,ho⟩
  obtain ⟨o,ho⟩:=hsome
  simp only [List.filterMap_cons,ho] at hw
  obtain ⟨b,hb,k1,k2⟩:=hw
  rcases hp1 with hp1|hp1
  ·refine Be [i] (beq_iff_eq.1 hp1) μ fun j hj=> ?_
   simp at hj
   subst hj
   rw [ho]
   exact ⟨b,hb,fun hbt=>Kh ih' (k1 hbt),fun hbf=>ih' _ _ (k2 hbf)⟩
  ·obtain ⟨ht,hr⟩:=hp1
   have hg:o.guard=none:=by
    unfold A9g at ht
    rw [ho] at ht
    simp only [Bool.and_eq_true,Option.isNone_iff_eq_none] at ht
    exact ht.1.2
   obtain ⟨dst,op,type,pos,after,guard⟩:=o
   simp only at hg
   subst hg
   refine A5j i ho ht hr ?_
   have hbt:b=true:=by
    simp [Ch] at hb
    exact hb
   exact Kh ih' (k1 hbt)
theorem R8 (σ : List Nat) {id:Nat} {l:List Oper} {Q:Out→Regs→Heap→Prop} (hB:(A5k l.toArray σ (Array.replicate l.length false) && σ.length == l.length)=true)
  (hw:wpOs P l.toArray (Q .norm) (σ.filterMap (l.toArray[·]?)) r h):wpc P (.region id l.toArray true) Q r h:=by
 simp only [Bool.and_eq_true,beq_iff_eq] at hB
 refine Nx ?_
 rw [←hB.2]
 rw [←hB.2] at hB
 exact Ajn σ _ r h hB.1 hw
end
end
set_option linter.unusedSimpArgs false
set_option linter.unusedVariables false
section
variable {P:Program} {ops:Array Oper} {r r':Regs} {h:Heap} {n:Nat}
def D7 (P:Program) (g:FuncId) (vs:List AV) (h:Heap) (x:AV):Prop:=CSem P g vs h fun x' h'=>x'=x∧h'=h
theorem As.quiet {f:FuncId} {args args':List AV} {x:AV} (hp:As P f args' x) {k:Nat} (hs:∀ h,mapL (snap h true k) args=some args'):D7 P f args h x:=hp.call (hs h)
def QOp (P:Program) (h:Heap) (r:Regs) (op:Op) (v:AV):Prop :=
 (Ay r op=none∧opB P r h op=some (v,h))∨∃ g vs,Ay r op=some (some (g,vs))∧D7 P g vs h v
theorem QOp.congr {op:Op} {v:AV} (hx:∀ x∈op.operands,Ae r x=Ae r' x) (hq:QOp P h r' op v):QOp P h r op v:=by
 rcases hq with ⟨h1,h2⟩|⟨g,vs,h1,h2⟩
 ·exact .inl ⟨by rw [Eu hx,h1],by rw [Lv hx,h2]⟩
 ·exact .inr ⟨g,vs,by rw [Eu hx,h1],h2⟩
theorem QOp.wpO {o:Oper} {v:AV} (hq:QOp P h r o.op v) {K:Regs→Heap→Prop} (hk:K (Av r o.dst v) h):wpO P o K r h:=by
 unfold X.wpO
 rcases hq with ⟨h1,h2⟩|⟨g,vs,h1,h2⟩
 ·rw [h1];exact .inl ⟨v,h,h2,hk⟩
 ·rw [h1];exact h2.mono (by rintro x h' ⟨rfl,rfl⟩;exact hk)
def Sk (P:Program) (ops:Array Oper) (h:Heap) (o:Oper) (v:AV) (r:Regs):Prop :=
 ∃ b,Ch ops r o=some b∧(b=true→QOp P h r o.op v)∧(b=false→v = .tup [])
def qX (P:Program) (ops:Array Oper) (h:Heap) (i:Nat) (K:Regs→Prop) (r:Regs):Prop:=match ops[i]? with
 | none=>K r
 | some o=> ∃ v,Sk P ops h o v r∧K (Av r o.dst v)
theorem Ajp {i:Nat} {K K':Regs→Prop} (hk:∀ r,K r→K' r) (hq:qX P ops h i K r):qX P ops h i K' r:=by
 unfold qX at hq ⊢
 split at hq
 ·exact hk _ hq
 ·obtain ⟨v,hy,k⟩:=hq;exact ⟨v,hy,hk _ k⟩
theorem qX_put {i j:Nat} {oi oj:Oper} {v:AV} (hj:ops[j]? = some oj) (hap:oi.apart ops oj=true) (hy:Sk P ops h oi v r) {K:Regs→Prop} (hq:qX P ops h j K (Av r oi.dst v)) :
  qX P ops h j (fun r'=>Sk P ops h oi v r'∧K (Av r' oi.dst v)) r:=by
 obtain ⟨a1,a2,a3⟩:=Oper.apart_spec hap
 unfold qX at hq ⊢
 rw [hj] at hq ⊢
 obtain ⟨u,⟨b,hb,h1,h2⟩,k⟩:=hq
 rw [L9 a1] at hb
 refine ⟨u,⟨b,hb,fun e=>(h1 e).congr (fun x hx=>(Fm a1 x hx).symm),h2⟩,?_,?_⟩
 ·obtain ⟨c,hc,g1,g2⟩:=hy
  exact ⟨c,by rw [L9 a3];exact hc,fun e=>(g1 e).congr (Fm a3),g2⟩
 ·rw [←Qs r v u a2];exact k
def Kk (P:Program) (ops:Array Oper) (h:Heap) (n:Nat) (L:Array Bool→Regs→Prop):Nat→Array Bool→Regs→Prop
 | 0,listed,r=>L listed r
 | f+1,listed,r=>Region.ready .any ops listed≠[]∧∀ i∈Region.ready .any ops listed,i < n∧qX P ops h i (Kk P ops h n L f (listed.setIfInBounds i true)) r
theorem Kk.any {g:Nat} {L:Array Bool→Regs→Prop} {K:Regs→Heap→Prop} (hL:∀ listed r,L listed r→Bn P ops K g listed r h) :
  ∀ (f:Nat) (listed:Array Bool) (r:Regs),Kk P ops h n L f listed r→Bn P ops K (f+g) listed r h:=by
 intro f
 induction f with
 | zero=>intro listed r hh;rw [Nat.zero_add];exact hL _ _ hh
 | succ f ih =>
  intro listed r hh
  rw [show f+1+g=f+g+1 by omega]
  refine ⟨fun h0=>(hh.1 h0).elim,fun i hi=> ?_⟩
  have hq:=(hh.2 i hi).2
  unfold qX at hq
  split at hq
  ·rename_i e;rw [e];exact ih _ _ hq
  ·rename_i o e
   rw [e]
   obtain ⟨v,⟨b,hb,h1,h2⟩,k⟩:=hq
   refine ⟨b,hb,fun e=>(h1 e).wpO (ih _ _ k),fun e=> ?_⟩
   have:=h2 e
   subst this
   exact ih _ _ k
def A2c (ops:Array Oper) (n:Nat):Prop:= ∀ (listed:Array Bool) (i:Nat),HeadInv .any ops n listed→i < n→listed.getD i true=false→∀ j∈Region.ready .any ops listed,j < n
theorem Kk.first (hfit:A2c ops n) {i:Nat} {oi:Oper} {v:AV} {L:Array Bool→Regs→Prop} (hi:ops[i]? = some oi) (hin:i < n) (hdone:∀ listed r,L listed r→∀ j∈Region.ready .any ops listed,n≤j) :
  ∀ (f:Nat) (listed:Array Bool) (r:Regs),HeadInv .any ops n listed →
   (∀ j oj,ops[j]? = some oj→j≠i→listed.getD j true=false→(∀ e∈oj.after,Region.binds .any e=true→e.on≠i)→oi.apart ops oj=true) →
   i∈Region.ready .any ops listed→Sk P ops h oi v r→Kk P ops h n L f (listed.setIfInBounds i true) (Av r oi.dst v)→Kk P ops h n L (f+1) listed r:=by
 intro f
 induction f with
 | zero =>
  intro listed r inv _ hr hy H
  refine ⟨fun h0=>(List.ne_nil_of_mem hr h0).elim,fun j hj=> ?_⟩
  have hjn:j < n:=hfit listed i inv hin (mem_ready.1 hr).1 j hj
  by_cases hji:j=i
  ·subst hji;refine ⟨hjn,?_⟩;unfold qX;rw [hi];exact ⟨v,hy,H⟩
  ·exact absurd (hdone _ _ H j (ready_mono hj hji)) ω
 | succ f ih =>
  intro listed r inv hfree hr hy H
  refine ⟨fun h0=>(List.ne_nil_of_mem hr h0).elim,fun j hj=> ?_⟩
  have hjn:j < n:=hfit listed i inv hin (mem_ready.1 hr).1 j hj
  refine ⟨hjn,?_⟩
  by_cases hji:j=i
  ·subst hji;unfold qX;rw [hi];exact ⟨v,hy,H⟩
  ·obtain ⟨hjun,oj,hoj,hall⟩:=mem_ready.1 hj
   have hap:=hfree j oj hoj hji hjun (fun e he hb heq=>by
    have h1:=hall e he hb
    rw [heq,getD_both (mem_ready.1 hr).1] at h1
    cases h1)
   have step:=qX_put (i:=i) hoj hap hy (H.2 j (ready_mono hj hji)).2
   refine Ajp (fun r' h3=> ?_) step
   refine ih (listed.setIfInBounds j true) r' (inv.set hj hjn) (fun k ok hk hki hun hno=>hfree k ok hk hki ?_ hno) (ready_mono hr (Ne.symm hji)) h3.1 ?_
   ·by_cases hjk:j=k
    ·subst hjk;exact hjun
    ·rwa [getD_set_ne true hjk] at hun
   ·rw [Array.setIfInBounds_comm _ _ hji]
    exact h3.2
def wpHd (P:Program) (ops:Array Oper) (h:Heap) (K:Regs→Prop):List Oper→Regs→Prop
 | [],r=>K r
 | o :: rest,r=> ∃ b,Ch ops r o=some b∧(b=true→match Ay r o.op with
   | some (some (g,vs))=> ∃ x,D7 P g vs h x∧wpHd P ops h K rest (Av r o.dst x)
   | some none=>False
   | none=>Lf o.op=true∧∃ v h',opB P r h o.op=some (v,h')∧wpHd P ops h K rest (Av r o.dst v)) ∧
  (b=false→wpHd P ops h K rest (Av r o.dst (.tup [])))
theorem Acf {op:Op} {K:AV→Heap→Prop} (hr:Lf op=true):spO P op K r h=False:=by
 unfold Lf at hr
 split at hr<;>first|rfl|cases hr
theorem A7z {op:Op} (hl:Lf op=true) {v:AV} {h':Heap} (e:opB P r h op=some (v,h')):h'=h:=by
 have h1:=A9d e
 unfold opX at h1
 split at h1
 all_goals try (cases hl;done)
 all_goals (repeat' split at h1)
 all_goals first
  | (cases h1;done)
  | (cases h1;rfl)
theorem A5m {o:Oper} {l:List Oper} {K:Regs→Prop} (hw:wpHd P ops h K (o :: l) r):∃ v,Sk P ops h o v r∧wpHd P ops h K l (Av r o.dst v):=by
 obtain ⟨b,hb,h1,h2⟩:=hw
 cases b with
 | true =>
  have h1:=h1 rfl
  split at h1
  ·rename_i g vs hc
   obtain ⟨x,q,k⟩:=h1
   exact ⟨x,⟨true,hb,fun _=> .inr ⟨g,vs,hc,q⟩,fun e=>by cases e⟩,k⟩
  ·exact h1.elim
  ·rename_i hc
   obtain ⟨hl,v,h',e,k⟩:=h1
   obtain rfl:=A7z hl e
   exact ⟨v,⟨true,hb,fun _=> .inl ⟨hc,e⟩,fun e=>by cases e⟩,k⟩
 | false=>exact ⟨.tup [],⟨false,hb,fun e=>(by cases e),fun _=>rfl⟩,h2 rfl⟩
theorem Kk.lex (hfit:A2c ops n) {g:Nat} {Lq:Regs→Prop} :
  ∀ (l:List Oper) (k:Nat) (listed:Array Bool) (r:Regs),(∀ j,j < l.length→l[j]? = ops[k+j]?)→k+l.length=n→HeadInv .any ops n listed →
  Region.lexHead .any ops g l.length k listed=true→wpHd P ops h Lq l r →
  Kk P ops h n (fun listed' r'=>Region.seqB .any ops g n listed'=true∧Lq r') l.length listed r:=by
 intro l
 induction l with
 | nil =>
  intro k listed r _ hk _ hB h
  obtain rfl:k=n:=by simpa using hk
  exact ⟨by simpa [Region.lexHead] using hB,h⟩
 | cons o l ih =>
  intro k listed r hl hk inv hB h
  simp only [List.length_cons] at hk hB ⊢
  have h0:ops[k]? = some o:=by simpa using (hl 0 μ).symm
  simp only [Region.lexHead,Bool.and_eq_true] at hB
  obtain ⟨⟨hr,hf⟩,hB'⟩:=hB
  have hr':k∈Region.ready .any ops listed:=by simpa using hr
  obtain ⟨v,hy,hK⟩:=A5m h
  refine Kk.first hfit h0 ω (fun listed' r' hL=>seqB_ready hL.1) l.length listed r inv (Region.free_spec h0 hf) hr' hy ?_
  exact ih (k+1) _ _ (fun j hj=>by have:=hl (j+1) (by simp;omega);simpa [Nat.add_assoc,Nat.add_comm 1 j] using this) ω (inv.set hr' ω) hB' hK
theorem Y1 {K:Regs→Heap→Prop} : ∀ (l:List Oper) (k:Nat) (listed:Array Bool) (r:Regs) (h:Heap),(∀ j,l[j]? = ops[k+j]?) →
  Region.seqB .any ops l.length k listed=true→wpOs P ops K l r h→Bn P ops K l.length listed r h
 | [],_,_,_,_,_,hB,hw=>⟨by simpa [Region.seqB] using hB,hw⟩
 | o :: l,k,listed,r,h,hl,hB,hw=>by
  have h0:ops[k]? = some o:=by simpa using (hl 0).symm
  simp only [List.length_cons,Region.seqB,Bool.and_eq_true,decide_eq_true_eq] at hB
  have ih:=Y1 (K:=K) l (k+1) (listed.setIfInBounds k true)
  have hl':∀ j,l[j]? = ops[k+1+j]? := fun j=>by have:=hl (j+1);simpa [Nat.add_assoc,Nat.add_comm 1 j] using this
  refine ⟨fun h1=>(by rw [hB.1] at h1;cases h1),fun i hi=> ?_⟩
  rw [hB.1] at hi
  have hik:i=k:=by simpa using hi
  subst hik
  rw [h0]
  obtain ⟨b,hb,h1,h2⟩:=hw
  exact ⟨b,hb,fun e=>Kh (fun r' h' k'=>ih r' h' hl' hB.2 k') (h1 e),fun e=>ih _ _ hl' hB.2 (h2 e)⟩
def A9h (ops:Array Oper) (n:Nat):Bool:=decide (n≤ops.size) && (decide (n=ops.size) || (Region.sinkB .any ops n && Region.chainB .any ops n)) && Region.lexHead .any ops (ops.size - n) n 0 (Array.replicate ops.size false)
theorem Acg (hB:A9h ops n=true):A2c ops n:=by
 simp only [A9h,Bool.and_eq_true,Bool.or_eq_true,decide_eq_true_eq] at hB
 obtain ⟨⟨hn,hB⟩,_⟩:=hB
 intro listed i inv hi hun j hj
 rcases hB with e|⟨hs,hc⟩
 ·obtain ⟨_,oj,hoj,_⟩:=mem_ready.1 hj
  rw [e];exact (Array.getElem?_eq_some_iff.1 hoj).1
 ·by_cases e:n=ops.size
  ·obtain ⟨_,oj,hoj,_⟩:=mem_ready.1 hj
   rw [e];exact (Array.getElem?_eq_some_iff.1 hoj).1
  ·exact Nat.lt_of_not_le fun hle=>tail_waits hs hc ω inv _ i rfl hi hun j hle hj
theorem Br (n:Nat) {id:Nat} {l:List Oper} {Q:Out→Regs→Heap→Prop} {r:Regs} {h:Heap} (hB:A9h l.toArray n=true)
  (hw:wpHd P l.toArray h (fun r'=>wpOs P l.toArray (Q .norm) (l.drop n) r' h) (l.take n) r):wpc P (.region id l.toArray true) Q r h:=by
 have hfit:=Acg hB
 simp only [A9h,Bool.and_eq_true,decide_eq_true_eq] at hB
 obtain ⟨⟨hn,_⟩,hlex⟩:=hB
 have hn':n≤l.length:=by simpa using hn
 have htl:(l.take n).length=n:=by simp;omega
 have hdl:(l.drop n).length=l.toArray.size - n:=by simp
 have H:=Kk.lex (P:=P) (h:=h) hfit (g:=l.toArray.size - n) (l.take n) 0 (Array.replicate l.toArray.size false) r
  (fun j hj=>by rw [htl] at hj;simp [hj]) (by simpa using htl)
  ⟨μ,fun j oj _ hl=>(by rw [getD_replicate_false] at hl;cases hl),fun t _ ht=>getD_in (by simpa using ht) (getD_replicate_false _ _)⟩ (by rw [htl];exact hlex) hw
 have:=Kk.any (K:=Q .norm) (g:=l.toArray.size - n) (fun listed r' hL=>by
  have:=Y1 (K:=Q .norm) (l.drop n) n listed r' h (fun j=>by simp [List.getElem?_drop]) (by rw [hdl];exact hL.1) hL.2
  rwa [hdl] at this) _ _ _ H
 rw [htl,show n+(l.toArray.size - n)=l.toArray.size by omega] at this
 exact this
end
section
variable {P:Program}
def QHas (P:Program) (g:FuncId) (vs:List AV) (h:Heap) (K:AV→Prop) (_:Tg K:= .mk):Prop:= ∃ x,D7 P g vs h x∧K x
theorem D7.use {g:FuncId} {vs:List AV} {h:Heap} {x:AV} {K:AV→Prop} (hq:D7 P g vs h x) (hk:K x):QHas P g vs h K:=⟨x,hq,hk⟩
@[congr] theorem QHas_congr {g:FuncId} {vs vs':List AV} {h h':Heap} {K:AV→Prop} (e1:vs=vs') (e2:h=h'):QHas P g vs h K=QHas P g vs' h' K:=by rw [e1,e2]
def hdI (P:Program) (op:Op) (dst:Option Tmp) (h:Heap) (K:Regs→Prop) (r:Regs):Prop :=
 match Ay r op with
 | some (some (g,vs))=> ∃ x,D7 P g vs h x∧K (Av r dst x)
 | some none=>False
 | none=>Lf op=true∧wpI P op dst (fun r' _=>K r') r h
section
variable {ops:Array Oper} {K:Regs→Prop} {r r':Regs} {h h':Heap} {rest:List Oper} {dst:Option Tmp} {op:Op} {type:TypeId} {pos:String} {after:Array Edge}
@[congr] theorem hdI_congr (e1:r=r') (e2:h=h'):hdI P op dst h K r=hdI P op dst h' K r':=by rw [e1,e2]
@[congr] theorem wpHd_congr {l:List Oper} (e1:r=r') (e2:h=h'):wpHd P ops h K l r=wpHd P ops h' K l r':=by rw [e1,e2]
@[simp] theorem wpHd_nil:wpHd P ops h K [] r=K r:=rfl
theorem Ag2 {j:Option (Nat×Bool)} : wpHd P ops h K (⟨dst,op,type,pos,after,j⟩ :: rest) r =
  ∃ b,Ch ops r ⟨dst,op,type,pos,after,j⟩=some b∧(b=true→hdI P op dst h (wpHd P ops h K rest) r)∧(b=false→wpHd P ops h K rest (Av r dst (.tup []))):=by
 have e:hdI P op dst h (wpHd P ops h K rest) r=(match Ay r op with
   | some (some (g,vs))=> ∃ x,D7 P g vs h x∧wpHd P ops h K rest (Av r dst x)
   | some none=>False
   | none=>Lf op=true∧∃ v h',opB P r h op=some (v,h')∧wpHd P ops h K rest (Av r dst v)):=by
  unfold hdI
  split
  ·rfl
  ·rfl
  ·rename_i hc
   simp only [wpI,hc,En]
   by_cases hl:Lf op=true
   ·rw [Acf hl,or_false]
   ·simp [hl]
 rw [e]
 rfl
@[simp] theorem wpHd_cons:wpHd P ops h K (⟨dst,op,type,pos,after,none⟩ :: rest) r=hdI P op dst h (wpHd P ops h K rest) r:=by
 rw [Ag2]
 apply propext
 constructor
 ·rintro ⟨b,hb,h1,h2⟩
  cases hb
  exact h1 rfl
 ·intro h1
  exact ⟨true,rfl,fun _=>h1,fun e=>by cases e⟩
@[simp] theorem wpHd_guard {j:Nat} {want:Bool} : wpHd P ops h K (⟨dst,op,type,pos,after,some (j,want)⟩ :: rest) r =
  Has (Ch ops r ⟨dst,op,type,pos,after,some (j,want)⟩) (fun b=>Fork b (hdI P op dst h (wpHd P ops h K rest) r) (wpHd P ops h K rest (Av r dst (.tup [])))):=by
 rw [Ag2]
 rfl
theorem Cc (hc:Ay r op=none) (hl:Lf op=true):hdI P op dst h K r=wpI P op dst (fun r' _=>K r') r h:=by
 simp only [hdI,hc,hl,true_and]
section
variable {x y c:Operand} {t t2:TypeId} {n:Nat} {bo:BinOp} {uo:UnOp} {ps:Array (Nat×Operand)} {xs ys:Array Operand} {ts:Array TypeId} {ox oy oz:Option Operand} {gf:FuncId}
@[simp] theorem hdI_move:hdI P (.move x) dst h K r=wpI P (.move x) dst (fun r' _=>K r') r h:=Cc rfl rfl
@[simp] theorem hdI_assign:hdI P (.assign x) dst h K r=wpI P (.assign x) dst (fun r' _=>K r') r h:=Cc rfl rfl
@[simp] theorem hdI_pick:hdI P (.pick c x y) dst h K r=wpI P (.pick c x y) dst (fun r' _=>K r') r h:=Cc rfl rfl
@[simp] theorem hdI_build:hdI P (.build t ps) dst h K r=wpI P (.build t ps) dst (fun r' _=>K r') r h:=Cc rfl rfl
@[simp] theorem hdI_load:hdI P (.load t x) dst h K r=wpI P (.load t x) dst (fun r' _=>K r') r h:=Cc rfl rfl
@[simp] theorem Ajq:hdI P (.nilCheck x) dst h K r=wpI P (.nilCheck x) dst (fun r' _=>K r') r h:=Cc rfl rfl
@[simp] theorem hdI_bin:hdI P (.binOp bo t x y t2) dst h K r=wpI P (.binOp bo t x y t2) dst (fun r' _=>K r') r h:=Cc rfl rfl
@[simp] theorem hdI_un:hdI P (.unOp uo t x) dst h K r=wpI P (.unOp uo t x) dst (fun r' _=>K r') r h:=Cc rfl rfl
@[simp] theorem hdI_func:hdI P (.makeFunc (.func gf) xs ys) dst h K r=wpI P (.makeFunc (.func gf) xs ys) dst (fun r' _=>K r') r h:=Cc rfl rfl
@[simp] theorem hdI_slice:hdI P (.slice t x ox oy oz) dst h K r=wpI P (.slice t x ox oy oz) dst (fun r' _=>K r') r h:=Cc rfl rfl
@[simp] theorem Agh:hdI P (.fieldAddr t x n) dst h K r=wpI P (.fieldAddr t x n) dst (fun r' _=>K r') r h:=Cc rfl rfl
@[simp] theorem hdI_field:hdI P (.field t x n) dst h K r=wpI P (.field t x n) dst (fun r' _=>K r') r h:=Cc rfl rfl
@[simp] theorem Agj:hdI P (.indexAddr t x y) dst h K r=wpI P (.indexAddr t x y) dst (fun r' _=>K r') r h:=Cc rfl rfl
@[simp] theorem hdI_index:hdI P (.index t x y) dst h K r=wpI P (.index t x y) dst (fun r' _=>K r') r h:=Cc rfl rfl
@[simp] theorem Akr:hdI P (.extract x n) dst h K r=wpI P (.extract x n) dst (fun r' _=>K r') r h:=Cc rfl rfl
@[simp] theorem hdI_makeIf:hdI P (.makeInterface t x) dst h K r=wpI P (.makeInterface t x) dst (fun r' _=>K r') r h:=Cc rfl rfl
@[simp] theorem hdI_assert {ok:Bool} : hdI P (.typeAssert x t t2 ok) dst h K r=wpI P (.typeAssert x t t2 ok) dst (fun r' _=>K r') r h:=Cc rfl rfl
@[simp] theorem hdI_len:hdI P (.call ⟨.builtin .len,xs,ts⟩) dst h K r=wpI P (.call ⟨.builtin .len,xs,ts⟩) dst (fun r' _=>K r') r h:=Cc rfl rfl
@[simp] theorem hdI_min:hdI P (.call ⟨.builtin .min,xs,ts⟩) dst h K r=wpI P (.call ⟨.builtin .min,xs,ts⟩) dst (fun r' _=>K r') r h:=Cc rfl rfl
@[simp] theorem hdI_max:hdI P (.call ⟨.builtin .max,xs,ts⟩) dst h K r=wpI P (.call ⟨.builtin .max,xs,ts⟩) dst (fun r' _=>K r') r h:=Cc rfl rfl
end
@[simp] theorem hdI_call {g:FuncId} {args:Array Operand} {ts:Array TypeId} : hdI P (.call ⟨.value (.func g),args,ts⟩) dst h K r=Has (Bh r args.toList) fun vs=>QHas P g vs h fun x=>K (Av r dst x):=by
 simp only [hdI,Ay,Ae,QHas]
 cases Bh r args.toList<;>simp
end
end
section
variable {P:Program} {ops:Array Oper} {r r':Regs} {h h':Heap} {K:Regs→Heap→Prop}
def Ua (P:Program) (r:Regs) (op:Op) (v:AV):Prop :=
 (Ay r op=none∧∀ h,opB P r h op=some (v,h))∨∃ g vs,Ay r op=some (some (g,vs))∧∀ h,CSem P g vs h fun x h'=>x=v∧h'=h
theorem Ua.wpO {o:Oper} {v:AV} (hf:Ua P r o.op v) {K:Regs→Heap→Prop} (hk:K (Av r o.dst v) h):wpO P o K r h:=by
 unfold X.wpO
 rcases hf with ⟨h1,h2⟩|⟨g,vs,h1,h2⟩
 ·rw [h1];exact .inl ⟨v,h,h2 h,hk⟩
 ·rw [h1];exact (h2 h).mono (by rintro x h' ⟨rfl,rfl⟩;exact hk)
theorem Ua.congr {op:Op} {v:AV} (hx:∀ x∈op.operands,Ae r x=Ae r' x) (hf:Ua P r' op v):Ua P r op v:=by
 rcases hf with ⟨h1,h2⟩|⟨g,vs,h1,h2⟩
 ·exact .inl ⟨by rw [Eu hx,h1],fun h=>by rw [Lv hx,h2]⟩
 ·exact .inr ⟨g,vs,by rw [Eu hx,h1],h2⟩
theorem wpO_at {o:Oper} (hx:∀ x∈o.op.operands,Ae r x=Ae r' x) {K K':Regs→Heap→Prop} (hk:∀ x h',K' (Av r' o.dst x) h'→K (Av r o.dst x) h') (hw:wpO P o K' r' h):wpO P o K r h:=by
 unfold wpO at hw ⊢
 rw [Eu hx]
 split at hw
 ·exact hw.mono fun x h' k=>hk _ _ k
 ·obtain ⟨l,vs,hy,k⟩:=hw
  exact ⟨l,vs,by rw [Y0 hx];exact hy,k.mono fun x h' k=>hk _ _ k⟩
 ·rcases hw with ⟨x,h',hx',k⟩|hw
  ·rw [Lv hx]
   exact .inl ⟨x,h',hx',hk _ _ k⟩
  ·rw [A0j hx]
   exact .inr (Xy (fun _ _=>hk _ _) hw)
def A9j (ops:Array Oper) (oi oj:Oper) (i:Nat):Bool :=
 oj.after.any (fun e=>Region.binds .any e && e.on == i) || oi.apart ops oj
def takeC (ops:Array Oper) (listed:Array Bool) (i:Nat):Bool :=
 match ops[i]? with
 | none=>false
 | some oi=>oi.guard.isNone && (List.range ops.size).all fun j=>j == i || listed.getD j true || match ops[j]? with
   | some oj=>A9j ops oi oj i
   | none=>true
theorem A5n {i:Nat} {oi:Oper} {v:AV} (hi:ops[i]? = some oi) (hg:oi.guard=none) :
  ∀ (f:Nat) (listed:Array Bool) (r:Regs) (h:Heap),
   (∀ j oj,ops[j]? = some oj→j≠i→listed.getD j true=false→A9j ops oi oj i=true) →
   i∈Region.ready .any ops listed→Ua P r oi.op v →
   Bn P ops K f (listed.setIfInBounds i true) (Av r oi.dst v) h→Bn P ops K (f+1) listed r h:=by
 have here:∀ (f:Nat) (listed:Array Bool) (r:Regs) (h:Heap),Ua P r oi.op v→Bn P ops K f (listed.setIfInBounds i true) (Av r oi.dst v) h →
   anyI P ops K f (listed.setIfInBounds i true) ops[i]? r h:=by
  intro f listed r h hv H
  rw [hi]
  exact ⟨true,by simp [Ch,hg],fun _=>hv.wpO H,fun e=>by cases e⟩
 intro f
 induction f with
 | zero =>
  intro listed r h _ hr hv H
  refine ⟨fun e=>(by rw [e] at hr;cases hr),fun j hj=> ?_⟩
  by_cases hji:j=i
  ·subst hji;exact here _ _ _ _ hv H
  ·have:=ready_mono hj hji
   rw [H.1] at this
   cases this
 | succ f ih =>
  intro listed r h hfree hr hv H
  refine ⟨fun e=>(by rw [e] at hr;cases hr),fun j hj=> ?_⟩
  by_cases hji:j=i
  ·subst hji;exact here _ _ _ _ hv H
  ·obtain ⟨hjun,oj,hoj,hall⟩:=mem_ready.1 hj
   have hpass:=hfree j oj hoj hji hjun
   unfold A9j at hpass
   simp only [Bool.or_eq_true,Bool.and_eq_true,List.any_eq_true,Array.any_eq_true',beq_iff_eq] at hpass
   have hnot:¬∃ e,e∈oj.after∧Region.binds .any e=true∧e.on=i:=by
    rintro ⟨e,he,hb,heq⟩
    have h1:=hall e he hb
    have h0:=(mem_ready.1 hr).1
    rw [heq] at h1
    rcases Nat.lt_or_ge i listed.size with h'|h'
    ·simp [h'] at h0 h1;rw [h0] at h1;cases h1
    ·simp [Array.getElem?_eq_none h'] at h1
   have hap:=hpass.resolve_left hnot
   obtain ⟨a1,a2,a3⟩:=Oper.apart_spec hap
   have h1:=H.2 j (ready_mono hj hji)
   rw [hoj] at h1 ⊢
   obtain ⟨b,hb,k1,k2⟩:=h1
   rw [L9 a1] at hb
   have hfree':∀ k ok,ops[k]? = some ok→k≠i→(listed.setIfInBounds j true).getD k true=false→A9j ops oi ok i=true:=fun k ok hk hki hun=>by
    refine hfree k ok hk hki ?_
    by_cases hjk:j=k
    ·subst hjk;exact hjun
    ·rw [getD_set_ne true hjk] at hun;exact hun
   have hops:∀ x∈oj.op.operands,Ae (Av r oi.dst v) x=Ae r x:=Fm a1
   have next:∀ (x:AV) (h':Heap),Bn P ops K f ((listed.setIfInBounds i true).setIfInBounds j true) (Av (Av r oi.dst v) oj.dst x) h' →
     Bn P ops K (f+1) (listed.setIfInBounds j true) (Av r oj.dst x) h':=by
    intro x h' H'
    refine ih (listed.setIfInBounds j true) (Av r oj.dst x) h' hfree' (ready_mono hr (Ne.symm hji)) (hv.congr (Fm a3)) ?_
    rw [Array.setIfInBounds_comm _ _ hji,Qs r v x a2] at *
    exact H'
   exact ⟨b,hb,fun hbt=>wpO_at (fun x hx=>(hops x hx).symm) (fun x h' k=>next x h' k) (k1 hbt),fun hbf=>next _ h (k2 hbf)⟩
def A5p (P:Program) (t:TypeId) (a:AV):Option AV:=match a with
 | .ipt xs=>Fc P Heap.empty t (.ipt xs)
 | _=>none
theorem Ag3 {t:TypeId} {a v:AV} (e:A5p P t a=some v) (h:Heap):Fc P h t a=some v:=by
 unfold A5p at e
 split at e
 ·rw [←e];rfl
 ·cases e
def A0k (P:Program) (g:FuncId) (vs:List AV) (K:AV→Prop) (_:Tg K:= .mk):Prop:= ∃ x,(∀ h,CSem P g vs h fun x' h'=>x'=x∧h'=h)∧K x
theorem A0k.use {g:FuncId} {vs:List AV} {x:AV} {K:AV→Prop} (hq:∀ h,CSem P g vs h fun x' h'=>x'=x∧h'=h) (hk:K x):A0k P g vs K:=⟨x,hq,hk⟩
@[congr] theorem Akt {g:FuncId} {vs vs':List AV} {K:AV→Prop} (e1:vs=vs'):A0k P g vs K=A0k P g vs' K:=by rw [e1]
def fI (P:Program) (op:Op) (dst:Option Tmp) (K:Regs→Heap→Prop) (r:Regs) (h:Heap):Prop:=match op with
 | .load t x=>Has (Ae r x) fun a=>Has (A5p P t a) fun v=>K (Av r dst v) h
 | .call ⟨.value (.func g),args,_⟩=>Has (Bh r args.toList) fun vs=>A0k P g vs fun x=>K (Av r dst x) h
 | op=>C6 op=true∧wpI P op dst K r h
theorem Ajr {op:Op} {dst:Option Tmp} {K:Regs→Heap→Prop} (hf:fI P op dst K r h):∃ v,Ua P r op v∧K (Av r dst v) h:=by
 unfold fI at hf
 split at hf
 ·obtain ⟨a,ha,v,hv,hk⟩:=hf
  exact ⟨v,.inl ⟨rfl,fun h=>by simp only [opB,ha,Option.bind_some,Ag3 hv h,Option.map_some]⟩,hk⟩
 ·obtain ⟨vs,hvs,x,hx,hk⟩:=hf
  exact ⟨x,.inr ⟨_,vs,by simp only [Ay,Ae,hvs];simp,hx⟩,hk⟩
 ·obtain ⟨hr,hw⟩:=hf
  unfold wpI at hw
  rw [Ff hr] at hw
  rcases hw with ⟨v,h',e,hk⟩|hw
  ·obtain ⟨rfl,h2⟩:=Qv hr e
   exact ⟨v,.inl ⟨Ff hr,h2⟩,hk⟩
  ·rw [Tw (by simp [Kj,hr])] at hw;exact hw.elim
@[congr] theorem fI_congr {op:Op} {dst:Option Tmp} (e1:r=r') (e2:h=h'):fI P op dst K r h=fI P op dst K r' h':=by rw [e1,e2]
def wpPl (P:Program) (ops:Array Oper) (K:Regs→Heap→Prop):List (Bool×Oper)→Regs→Heap→Prop
 | [],r,h=>K r h
 | (true,o) :: l,r,h=>fI P o.op o.dst (wpPl P ops K l) r h
 | (false,o) :: l,r,h=> ∃ b,Ch ops r o=some b∧(b=true→wpO P o (wpPl P ops K l) r h)∧(b=false→wpPl P ops K l (Av r o.dst (.tup [])) h)
@[congr] theorem wpPl_congr {l:List (Bool×Oper)} (e1:r=r') (e2:h=h'):wpPl P ops K l r h=wpPl P ops K l r' h':=by rw [e1,e2]
def Ub (ops:Array Oper):List (Bool×Nat)→Array Bool→Bool
 | [],listed=>(Region.ready .any ops listed).isEmpty
 | (false,i) :: l,listed=>(Region.ready .any ops listed == [i]) && Ub ops l (listed.setIfInBounds i true)
 | (true,i) :: l,listed=>takeC ops listed i && (Region.ready .any ops listed).contains i && Ub ops l (listed.setIfInBounds i true)
def A0m (ops:Array Oper) (σ : List (Bool×Nat)):List (Bool×Oper):=σ.filterMap fun p=>(ops[p.2]?).map fun o=>(p.1,o)
theorem Ag4:∀ (l:List (Bool×Nat)) (listed:Array Bool) (r:Regs) (h:Heap),Ub ops l listed=true→wpPl P ops K (A0m ops l) r h→Bn P ops K l.length listed r h:=by
 intro l
 induction l with
 | nil =>
  intro listed r h hp hw
  simp only [Ub,List.isEmpty_iff] at hp
  exact ⟨hp,hw⟩
 | cons p l ih =>
  intro listed r h hp hw
  obtain ⟨b,i⟩:=p
  cases b with
  | false =>
   simp only [Ub,Bool.and_eq_true,beq_iff_eq] at hp
   have ih':=fun r h=>ih (listed.setIfInBounds i true) r h hp.2
   have hm:i∈Region.ready .any ops listed:=by rw [hp.1];simp
   obtain ⟨_,o,ho,_⟩:=mem_ready.1 hm
   simp only [A0m,List.filterMap_cons,ho,Option.map_some] at hw
   obtain ⟨b,hb,k1,k2⟩:=hw
   refine Be [i] hp.1 μ fun j hj=> ?_
   simp at hj
   subst hj
   rw [ho]
   exact ⟨b,hb,fun hbt=>Kh ih' (k1 hbt),fun hbf=>ih' _ _ (k2 hbf)⟩
  | true =>
   simp only [Ub,Bool.and_eq_true] at hp
   obtain ⟨⟨ht,hr⟩,hp⟩:=hp
   have ih':=fun r h=>ih (listed.setIfInBounds i true) r h hp
   have hm:i∈Region.ready .any ops listed:=by simpa using hr
   obtain ⟨_,o,ho,_⟩:=mem_ready.1 hm
   simp only [A0m,List.filterMap_cons,ho,Option.map_some] at hw
   obtain ⟨v,hv,hk⟩:=Ajr hw
   unfold takeC at ht
   rw [ho] at ht
   simp only [Bool.and_eq_true,Option.isNone_iff_eq_none] at ht
   refine A5n ho ht.1 l.length listed r h (fun j oj hj hji hun=> ?_) hm hv (ih' _ _ hk)
   have hjs:j < ops.size:=by
    apply Nat.lt_of_not_ge
    intro hge
    rw [Array.getElem?_eq_none hge] at hj
    cases hj
   have:=List.all_eq_true.1 ht.2 j (by simpa using hjs)
   simp only [hj,Bool.or_eq_true,beq_iff_eq,hji,false_or,hun,Bool.false_eq_true] at this
   exact this
theorem wpc_pl (σ : List (Bool×Nat)) {id:Nat} {l:List Oper} {Q:Out→Regs→Heap→Prop} (hB:(Ub l.toArray σ (Array.replicate l.length false) && σ.length == l.length)=true)
  (hw:wpPl P l.toArray (Q .norm) (A0m l.toArray σ) r h):wpc P (.region id l.toArray true) Q r h:=by
 simp only [Bool.and_eq_true,beq_iff_eq] at hB
 refine Nx ?_
 rw [←hB.2]
 rw [←hB.2] at hB
 exact Ag4 σ _ r h hB.1 hw
def wpTk (P:Program) (K:Regs→Heap→Prop):List Oper→Regs→Heap→Prop
 | [],r,h=>K r h
 | o :: l,r,h=>fI P o.op o.dst (wpTk P K l) r h
@[congr] theorem wpTk_congr {l:List Oper} (e1:r=r') (e2:h=h'):wpTk P K l r h=wpTk P K l r' h':=by rw [e1,e2]
@[simp] theorem wpTk_nil:wpTk P K [] r h=K r h:=rfl
@[simp] theorem wpTk_cons {dst:Option Tmp} {op:Op} {type:TypeId} {pos:String} {after:Array Edge} {g:Option (Nat×Bool)} {rest:List Oper} : wpTk P K (⟨dst,op,type,pos,after,g⟩ :: rest) r h=fI P op dst (wpTk P K rest) r h:=rfl
theorem Uc:∀ (l:List Oper),wpPl P ops K (l.map fun o=>(false,o))=wpOs P ops K l
 | []=>rfl
 | o :: l=>by funext r h;simp only [List.map_cons,wpPl,wpOs,Uc l]
theorem Y2 (l2:List (Bool×Oper)):∀ (l:List Oper),wpPl P ops K (l.map (fun o=>(true,o)) ++ l2)=wpTk P (wpPl P ops K l2) l
 | []=>rfl
 | o :: l=>by funext r h;simp only [List.map_cons,List.cons_append,wpPl,wpTk,Y2 l2 l]
def pl (n m:Nat):List (Bool×Nat):=(List.range n).map (fun i=>(true,i)) ++ (List.range' n m).map (fun i=>(false,i))
theorem Ag5 {l:List Oper} {n m:Nat} (hn:n+m=l.length):A0m l.toArray (pl n m)=(l.take n).map (fun o=>(true,o)) ++ (l.drop n).map (fun o=>(false,o)):=by
 have e:∀ (b:Bool) (k c:Nat),c+k≤l.length→((List.range' c k).map fun i=>(b,i)).filterMap (fun p=>(l.toArray[p.2]?).map fun o=>(p.1,o))=((l.drop c).take k).map fun o=>(b,o):=by
  intro b k
  induction k with
  | zero=>intro c _;simp
  | succ k ih =>
   intro c hc
   have hcl:c < l.length:=by omega
   rw [List.range'_succ,List.map_cons,List.filterMap_cons]
   simp only [List.getElem?_toArray,List.getElem?_eq_getElem hcl,Option.map_some]
   rw [show (fun p:Bool×Nat=>Option.map (fun o=>(p.1,o)) l[p.2]?)=fun p=>(l.toArray[p.2]?).map fun o=>(p.1,o) from by funext p;simp]
   rw [ih (c+1) ω,List.drop_eq_getElem_cons hcl,List.take_succ_cons,List.map_cons]
 unfold A0m pl
 rw [List.filterMap_append,List.range_eq_range',e true n 0 ω,e false m n ω,List.drop_zero]
 congr 2
 exact List.take_of_length_le (by simp;omega)
theorem Aeh (n m:Nat) {id:Nat} {l:List Oper} {Q:Out→Regs→Heap→Prop} (hB:(Ub l.toArray (pl n m) (Array.replicate l.length false) && (n+m == l.length))=true)
  (hw:wpTk P (fun r h=>wpOs P l.toArray (Q .norm) (l.drop n) r h) (l.take n) r h):wpc P (.region id l.toArray true) Q r h:=by
 simp only [Bool.and_eq_true,beq_iff_eq] at hB
 refine wpc_pl (pl n m) ?_ ?_
 ·simp only [Bool.and_eq_true,beq_iff_eq]
  exact ⟨hB.1,by simp [pl,hB.2]⟩
 ·rw [Ag5 hB.2,Y2,Uc]
  exact hw
def nthO:List Oper→Nat→Option Oper
 | [],_=>none
 | a :: _,0=>some a
 | _ :: l,n+1=>nthO l n
@[congr] theorem nthO_congr {l:List Oper} {i:Nat} : nthO l i=nthO l i:=rfl
@[simp] theorem nthO_zero {a:Oper} {l:List Oper} : nthO (a :: l) 0=some a:=rfl
@[simp] theorem nthO_succ {a:Oper} {l:List Oper} {n:Nat} : nthO (a :: l) (n+1)=nthO l n:=rfl
def A0n (P:Program) (ops:Array Oper) (b:Bool) (o:Option Oper) (K:Regs→Heap→Prop) (r:Regs) (h:Heap):Prop:=match o,b with
 | some o,true=>fI P o.op o.dst K r h
 | some o,false=> ∃ b,Ch ops r o=some b∧(b=true→wpO P o K r h)∧(b=false→K (Av r o.dst (.tup [])) h)
 | none,_=>K r h
@[congr] theorem Aku {b:Bool} {o o':Option Oper} (e:o=o') (e1:r=r') (e2:h=h'):A0n P ops b o K r h=A0n P ops b o' K r' h':=by rw [e,e1,e2]
@[simp] theorem stepP_take {dst:Option Tmp} {op:Op} {type:TypeId} {pos:String} {after:Array Edge} {g:Option (Nat×Bool)} : A0n P ops true (some ⟨dst,op,type,pos,after,g⟩) K r h=fI P op dst K r h:=rfl
@[simp] theorem stepP_only {dst:Option Tmp} {op:Op} {type:TypeId} {pos:String} {after:Array Edge} : A0n P ops false (some ⟨dst,op,type,pos,after,none⟩) K r h=wpI P op dst K r h:=by
 have:=Pq (P:=P) (ops:=ops) (K:=K) (r:=r) (h:=h) (rest:=[]) (dst:=dst) (op:=op) (type:=type) (pos:=pos) (after:=after)
 rw [show wpI P op dst K r h=wpI P op dst (wpOs P ops K []) r h from rfl,←this]
 rfl
def wpPs (P:Program) (ops:Array Oper) (l:List Oper) (K:Regs→Heap→Prop):List (Bool×Nat)→Regs→Heap→Prop
 | [],r,h=>K r h
 | (b,i) :: σ,r,h=>A0n P ops b (nthO l i) (wpPs P ops l K σ) r h
@[congr] theorem wpPs_congr {l:List Oper} {σ : List (Bool×Nat)} (e1:r=r') (e2:h=h'):wpPs P ops l K σ r h=wpPs P ops l K σ r' h':=by rw [e1,e2]
@[simp] theorem wpPs_nil {l:List Oper} : wpPs P ops l K [] r h=K r h:=rfl
@[simp] theorem wpPs_cons {l:List Oper} {b:Bool} {i:Nat} {σ : List (Bool×Nat)} : wpPs P ops l K ((b,i) :: σ) r h=A0n P ops b (nthO l i) (wpPs P ops l K σ) r h:=rfl
section
variable {rest:List (Bool×Oper)} {dst:Option Tmp} {op:Op} {type:TypeId} {pos:String} {after:Array Edge}
@[simp] theorem wpPl_nil:wpPl P ops K [] r h=K r h:=rfl
@[simp] theorem wpPl_take {g:Option (Nat×Bool)} : wpPl P ops K ((true,⟨dst,op,type,pos,after,g⟩) :: rest) r h=fI P op dst (wpPl P ops K rest) r h:=rfl
@[simp] theorem wpPl_only:wpPl P ops K ((false,⟨dst,op,type,pos,after,none⟩) :: rest) r h=wpI P op dst (wpPl P ops K rest) r h:=by
 have:=Pq (P:=P) (ops:=ops) (K:=wpPl P ops K rest) (r:=r) (h:=h) (rest:=[]) (dst:=dst) (op:=op) (type:=type) (pos:=pos) (after:=after)
 rw [show wpI P op dst (wpPl P ops K rest) r h=wpI P op dst (wpOs P ops (wpPl P ops K rest) []) r h from rfl,←this]
 rfl
@[simp] theorem wpPl_guard {j:Nat} {want:Bool} : wpPl P ops K ((false,⟨dst,op,type,pos,after,some (j,want)⟩) :: rest) r h =
  Has (Ch ops r ⟨dst,op,type,pos,after,some (j,want)⟩) (fun b=>Fork b (wpI P op dst (wpPl P ops K rest) r h) (wpPl P ops K rest (Av r dst (.tup [])) h)):=by
 rfl
section
variable {x y c:Operand} {t t2:TypeId} {n:Nat} {bo:BinOp} {uo:UnOp} {ps:Array (Nat×Operand)} {xs ys:Array Operand} {ts:Array TypeId} {ox oy oz:Option Operand} {gf:FuncId}
@[simp] theorem fI_move:fI P (.move x) dst K r h=wpI P (.move x) dst K r h:=by simp [fI,C6]
@[simp] theorem fI_assign:fI P (.assign x) dst K r h=wpI P (.assign x) dst K r h:=by simp [fI,C6]
@[simp] theorem fI_pick:fI P (.pick c x y) dst K r h=wpI P (.pick c x y) dst K r h:=by simp [fI,C6]
@[simp] theorem fI_build:fI P (.build t ps) dst K r h=wpI P (.build t ps) dst K r h:=by simp [fI,C6]
@[simp] theorem Akv:fI P (.nilCheck x) dst K r h=wpI P (.nilCheck x) dst K r h:=by simp [fI,C6]
@[simp] theorem fI_bin:fI P (.binOp bo t x y t2) dst K r h=wpI P (.binOp bo t x y t2) dst K r h:=by simp [fI,C6]
@[simp] theorem fI_un:fI P (.unOp uo t x) dst K r h=wpI P (.unOp uo t x) dst K r h:=by simp [fI,C6]
@[simp] theorem fI_func:fI P (.makeFunc (.func gf) xs ys) dst K r h=wpI P (.makeFunc (.func gf) xs ys) dst K r h:=by simp [fI,C6]
@[simp] theorem fI_slice:fI P (.slice t x ox oy oz) dst K r h=wpI P (.slice t x ox oy oz) dst K r h:=by simp [fI,C6]
@[simp] theorem Ajs:fI P (.fieldAddr t x n) dst K r h=wpI P (.fieldAddr t x n) dst K r h:=by simp [fI,C6]
@[simp] theorem fI_field:fI P (.field t x n) dst K r h=wpI P (.field t x n) dst K r h:=by simp [fI,C6]
@[simp] theorem Ajt:fI P (.indexAddr t x y) dst K r h=wpI P (.indexAddr t x y) dst K r h:=by simp [fI,C6]
@[simp] theorem fI_index:fI P (.index t x y) dst K r h=wpI P (.index t x y) dst K r h:=by simp [fI,C6]
@[simp] theorem fI_extract:fI P (.extract x n) dst K r h=wpI P (.extract x n) dst K r h:=by simp [fI,C6]
@[simp] theorem fI_makeIf:fI P (.makeInterface t x) dst K r h=wpI P (.makeInterface t x) dst K r h:=by simp [fI,C6]
@[simp] theorem fI_assert {ok:Bool} : fI P (.typeAssert x t t2 ok) dst K r h=wpI P (.typeAssert x t t2 ok) dst K r h:=by simp [fI,C6]
@[simp] theorem fI_len:fI P (.call ⟨.builtin .len,xs,ts⟩) dst K r h=wpI P (.call ⟨.builtin .len,xs,ts⟩) dst K r h:=by simp [fI,C6]
@[simp] theorem fI_load:fI P (.load t x) dst K r h=Has (Ae r x) fun a=>Has (A5p P t a) fun v=>K (Av r dst v) h:=rfl
@[simp] theorem fI_call {g:FuncId} {args:Array Operand} : fI P (.call ⟨.value (.func g),args,ts⟩) dst K r h=Has (Bh r args.toList) fun vs=>A0k P g vs fun x=>K (Av r dst x) h:=rfl
@[simp] theorem loadF_ipt (ha:aggT P t=some false) (hz:(szT P t).isSome=true) {xs:List AV} : A5p P t (.ipt xs)=xs[0]? := Acb ha hz
end
end
end
structure Ext (h h':Heap):Prop where
 next:h.next≤h'.next
 lp:h'.lp=h.lp
 gh:h'.gh=h.gh
 get:∀ b,b < h.next→h'.get b=h.get b
theorem Ext.refl (h:Heap):Ext h h:=⟨Nat.le_refl _,rfl,rfl,fun _ _=>rfl⟩
theorem Ext.trans {h h1 h2:Heap} (a:Ext h h1) (b:Ext h1 h2):Ext h h2 :=
 ⟨Nat.le_trans a.next b.next,b.lp.trans a.lp,b.gh.trans a.gh,fun k hk=>(b.get k (Nat.lt_of_lt_of_le hk a.next)).trans (a.get k hk)⟩
theorem Ext.alloc {h h':Heap} (a:Ext h h') (cs:List AV):Ext h (h'.alloc cs) :=
 ⟨Nat.le_succ_of_le a.next,a.lp,a.gh,fun b hb=>by rw [Heap.Aa,if_neg (by have:=a.next;omega)];exact a.get b hb⟩
theorem Ext.put {h h':Heap} (a:Ext h h') {k:Nat} (hk:h.next≤k) (cs:List AV):Ext h (h'.put k cs) :=
 ⟨a.next,a.lp,a.gh,fun b hb=>by
  have hne:b≠k:=by omega
  rw [←a.get b hb]
  unfold Heap.put Heap.get
  simp only [Tr.Mc,if_neg hne]⟩
theorem Ext.kill {h h':Heap} (a:Ext h h') {k:Nat} (hk:h.next≤k):Ext h (h'.kill k) :=
 ⟨a.next,a.lp,a.gh,fun b hb=>by rw [Heap.Ek,if_neg ω];exact a.get b hb⟩
theorem Ext.got {h h':Heap} (a:Ext h h') {b:Nat} {cs:List AV} (hg:h.get b=some cs):h'.get b=some cs:=(a.get b (Heap.Ah hg)).trans hg
section
variable {P:Program} {h:Heap} {I I':Nat→Prop} {ρ ρ' ρ'':BMap} {w w':World}
theorem VR.narrow {x:AV} {u:Value} (a:VR w I ρ x u) (he:∀ k y, ρ k=some y→ρ'' k=ρ' k):∀ {u':Value},VR w' I' ρ' x u'→VR w' I' ρ'' x u':=by
 induction a with
 | bool b=>intro u' b';cases b';exact .bool _
 | int k n=>intro u' b';cases b';exact .int _ _
 | str s=>intro u' b';cases b';exact .str _
 | nilSl=>intro u' b';cases b';exact .nilSl
 | emp a=>intro u' b';cases b';exact .emp _
 | vec0 a cap =>
  intro u' b'
  cases b' with
  | vec0 a' c'=>exact .vec0 a' c'
  | vecN=>exact .vecN
  | vec _ _ B o c cs e fz vs hI hg hl hc hv=>exact .vec 0 [] B o c cs e fz vs hI hg hl hc (fun i hi=>by simp at hi)
 | vecN =>
  intro u' b'
  cases b' with
  | vec0 a' c'=>exact .vec0 a' c'
  | vecN=>exact .vecN
  | vec _ _ B o c cs e fz vs hI hg hl hc hv=>exact .vec 0 [] B o c cs e fz vs hI hg hl hc (fun i hi=>by simp at hi)
 | vec len xs B o cap cs e fz vs hI hg hl hc hv ih =>
  intro u' b'
  cases b' with
  | vec0 a' c'=>exact .vec0 a' c'
  | vecN=>exact .vecN
  | vec _ _ B' o' c' cs' e' fz' vs' hI' hg' hl' hc' hv'=>exact .vec len xs B' o' c' cs' e' fz' vs' hI' hg' hl' hc' (fun i hi=>ih i hi (hv' i hi))
 | sl b off len cap z B o o' C cs e fz hρ ho hl hC hg hs =>
  intro u' b'
  cases b' with
  | sl _ _ _ _ _ B1 o1 o1' C1 cs1 e1 fz1 hρ1 ho1 hl1 hC1 hg1 hs1=>exact .sl b off len cap z B1 o1 o1' C1 cs1 e1 fz1 (by rw [he b _ hρ];exact hρ1) ho1 hl1 hC1 hg1 hs1
 | nilPtr=>intro u' b';cases b';exact .nilPtr
 | ptr b off B o hρ =>
  intro u' b'
  cases b' with
  | ptr _ _ B1 o1 hρ1=>exact .ptr b off B1 o1 (by rw [he b _ hρ];exact hρ1)
 | ipt xs B o cs e fz vs hI hg hc hv ih =>
  intro u' b'
  cases b' with
  | ipt _ B' o' cs' e' fz' vs' hI' hg' hc' hv'=>exact .ipt xs B' o' cs' e' fz' vs' hI' hg' hc' (fun i hi=>ih i hi (hv' i hi))
 | fn f xs ys us vs hx hy h1 h2 ih1 ih2 =>
  intro u' b'
  cases b' with
  | fn _ _ _ us' vs' hx' hy' h1' h2'=>exact .fn f xs ys us' vs' hx' hy' (fun i hi=>ih1 i hi (h1' i hi)) (fun i hi=>ih2 i hi (h2' i hi))
 | nilFn=>intro u' b';cases b';exact .nilFn
 | nilIf=>intro u' b';cases b';exact .nilIf
 | iface t x v hv ih =>
  intro u' b'
  cases b' with
  | iface _ _ v' hv'=>exact .iface t x v' (ih hv')
 | agg xs vs hx hv ih =>
  intro u' b'
  cases b' with
  | agg _ vs' hx' hv'=>exact .agg xs vs' hx' (fun i hi=>ih i hi (hv' i hi))
 | tup xs vs hx hv ih =>
  intro u' b'
  cases b' with
  | tup _ vs' hx' hv'=>exact .tup xs vs' hx' (fun i hi=>ih i hi (hv' i hi))
 | nilMap=>intro u' b';cases b';exact .nilMap
 | yld l=>intro u' b';cases b';exact .yld _
 | gmp b=>intro u' b';cases b';exact .gmp _
 | gpt b=>intro u' b';cases b';exact .gpt _
theorem CSem.Me {f:FuncId} {args:List AV} {Q:AV→Prop} (hr:∀ x,Q x→∃ k v,rig k x=some v) (hc:CSem P f args h fun x h'=>Q x∧Ext h h'):CSem P f args h fun x h'=>Q x∧h'=h:=by
 refine ⟨hc.1,fun I ρ w cargs R ha=>(hc.2 I ρ w cargs R ha).mono ?_⟩
 rintro e w' ⟨v,x,h',I', ρ',rfl,⟨hQ,E⟩,R',hv,G⟩
 have hd:∀ k y, ρ k=some y→k < h.next:=R.rel.dom
 obtain ⟨ρ'',hρ''⟩:∃ ρ'':BMap, ρ''=fun k=>if (ρ k).isSome then ρ' k else none:=⟨_,rfl⟩
 have he:∀ k y, ρ k=some y→ρ'' k=ρ' k:=fun k y hk=>by rw [hρ''];simp [hk]
 have hin:∀ k y, ρ'' k=some y→(∃ z, ρ k=some z)∧ρ' k=some y:=by
  intro k y hk
  rw [hρ''] at hk
  cases hq:ρ k with
  | none=>simp [hq] at hk
  | some z=>simp [hq] at hk;exact ⟨⟨z,rfl⟩,hk⟩
 have hlive:∀ k cs,h.get k=some cs→h'.get k=some cs:=fun k cs hg=>E.got hg
 have hown:∀ B,C9 ρ'' h B→C9 ρ' h' B:=by
  rintro B ⟨k,cs,o,hg,hk⟩
  exact ⟨k,cs,o,hlive k cs hg,(hin k _ hk).2⟩
 have nar:∀ {y:AV} {u u':Value},VR w I ρ y u→VR w' I' ρ' y u'→VR w' I' ρ'' y u':=fun a b=>a.narrow he b
 have RR:RelL I' ρ'' w' h:=by
  refine ⟨⟨fun k y hk=>by obtain ⟨z,hz⟩:=(hin k y hk).1;exact hd k z hz,fun k cells B o hg hk=> ?_,fun k k' c c' B o o' hg hg' hk hk'=> ?_,fun B hB=>⟨(R'.rel.imm B hB).1,fun ho=>(R'.rel.imm B hB).2 (hown B ho)⟩⟩,fun lp hl=> ?_,fun B g hg=> ?_⟩
  ·obtain ⟨cs,e,fz,g1,g2,g3⟩:=R'.rel.cont k cells B o (hlive k cells hg) (hin k _ hk).2
   refine ⟨cs,e,fz,g1,g2,fun i y hy=> ?_⟩
   obtain ⟨u',u1,u2⟩:=g3 i y hy
   obtain ⟨⟨⟨B0,o0⟩,hρk⟩,_⟩:=hin k _ hk
   obtain ⟨cs0,e0,fz0,k1,k2,k3⟩:=R.rel.cont k cells B0 o0 hg hρk
   obtain ⟨u0,v1,v2⟩:=k3 i y hy
   exact ⟨u',u1,nar v2 u2⟩
  ·exact R'.rel.inj k k' c c' B o o' (hlive _ _ hg) (hlive _ _ hg') (hin k _ hk).2 (hin k' _ hk').2
  ·obtain ⟨⟨fn,tmps,D,a1,a2,a3⟩,a4⟩:=R'.lp lp (by rw [E.lp];exact hl)
   obtain ⟨⟨fn0,tmps0,D0,b1,b2,b3⟩,b4⟩:=R.lp lp hl
   exact ⟨⟨fn,tmps,D,a1,fun t=>nar (b2 t) (a2 t),a3⟩,a4⟩
  ·obtain ⟨a1,a2⟩:=R'.gh B g (by rw [E.gh];exact hg)
   obtain ⟨b1,b2⟩:=R.gh B g hg
   refine ⟨?_,a2.1,fun ho=>a2.2 (hown B ho)⟩
   cases g with
   | map es clock =>
    obtain ⟨ms,p1,p2,p3⟩:=a1
    obtain ⟨ms0,q1,q2,q3⟩:=b1
    refine ⟨ms,p1,p2,fun i e m hi hm=> ?_⟩
    have h1:=p3 i e m hi hm
    have hil:=(List.getElem?_eq_some_iff.1 hi).1
    have h0:=q3 i e ms0[i] hi (by simp [q2,hil])
    exact ⟨nar h0.key h1.key,nar h0.val h1.val,h1.born⟩
   | iter m since seen last=>exact a1
   | text s pos=>exact a1
   | bld T e txt row=>exact a1
   | brow e txt cap=>exact a1
 obtain ⟨k,vv,hrig⟩:=hr x hQ
 have:=(Tu k x vv hrig).2 _ _ _ _ hv
 subst this
 exact ⟨v,x,h,I', ρ'',rfl,⟨hQ,rfl⟩,RR,(Tu k x v hrig).1 _ _ _,
  ⟨G.os,G.tape,G.output,G.size,Nat.le_refl _,G.imm,fun k y hk=>by rw [he k y hk];exact G.map k y hk,G.block,G.cells,fun B ho=>G.owned B (hown B ho),G.inew,rfl,fun B hB=> .inl hB⟩⟩
def Heap.Kd (h:Heap):Nat→Heap
 | 0=>h
 | n+1=>(h.Kd n).kill n
theorem Heap.A0p (h:Heap) (n k:Nat):(h.Kd n).get k=if n≤k then h.get k else none:=by
 induction n with
 | zero=>simp [Heap.Kd]
 | succ n ih =>
  simp only [Heap.Kd,Heap.Ek,ih]
  by_cases hk:k=n
  ·subst hk;rw [if_pos rfl,if_neg ω]
  ·rw [if_neg hk]
   by_cases h2:n≤k
   ·rw [if_pos h2,if_pos ω]
   ·rw [if_neg h2,if_neg ω]
theorem Heap.Aex {h:Heap} {n k:Nat} {cs:List AV} (hg:h.get k=some cs) (hn:n≤k):(h.Kd n).get k=some cs:=by rw [Heap.A0p,if_pos hn,hg]
theorem Heap.Hn {h:Heap} {n k:Nat} {cs:List AV} (hg:(h.Kd n).get k=some cs):h.get k=some cs∧n≤k:=by
 rw [Heap.A0p] at hg
 split at hg
 ·rename_i hn;exact ⟨hg,hn⟩
 ·cases hg
theorem CSem.frz {f:FuncId} {args:List AV} {Q:AV→Prop} {k:Nat} (hc:CSem P f args h fun x h'=>Ext h h'∧∃ y,snap (h'.Kd h.next) true k x=some y∧Q y):CSem P f args h fun y h'=>Q y∧h'=h:=by
 refine ⟨hc.1,fun I ρ w cargs R ha=>(hc.2 I ρ w cargs R ha).mono ?_⟩
 rintro e w' ⟨v,x,h',I', ρ',rfl,⟨E,y,hy,hQ⟩,R',hv,G⟩
 have hd:∀ k y, ρ k=some y→k < h.next:=R.rel.dom
 obtain ⟨ρ'',hρ''⟩:∃ ρ'':BMap, ρ''=fun k=>if (ρ k).isSome then ρ' k else none:=⟨_,rfl⟩
 have he:∀ k y, ρ k=some y→ρ'' k=ρ' k:=fun k y hk=>by rw [hρ''];simp [hk]
 have hin:∀ k y, ρ'' k=some y→(∃ z, ρ k=some z)∧ρ' k=some y:=by
  intro k y hk
  rw [hρ''] at hk
  cases hq:ρ k with
  | none=>simp [hq] at hk
  | some z=>simp [hq] at hk;exact ⟨⟨z,rfl⟩,hk⟩
 have hlive:∀ k cs,h.get k=some cs→h'.get k=some cs:=fun k cs hg=>E.got hg
 have hown:∀ B,C9 ρ'' h B→C9 ρ' h' B:=by
  rintro B ⟨k,cs,o,hg,hk⟩
  exact ⟨k,cs,o,hlive k cs hg,(hin k _ hk).2⟩
 have hownU:∀ B,C9 ρ' (h'.Kd h.next) B→C9 ρ' h' B:=by
  rintro B ⟨k,cs,o,hg,hk⟩
  exact ⟨k,cs,o,(Heap.Hn hg).1,hk⟩
 have hsep:∀ B,C9 ρ' (h'.Kd h.next) B→¬C9 ρ'' h B:=by
  rintro B ⟨k,cs,o,hg,hk⟩ ⟨k2,cs2,o2,hg2,hk2⟩
  have hn:=(Heap.Hn hg).2
  have:=R'.rel.inj k k2 cs cs2 B o o2 (Heap.Hn hg).1 (hlive _ _ hg2) hk (hin k2 _ hk2).2
  have:=Heap.Ah hg2
  omega
 have hsep0:∀ B,C9 ρ' (h'.Kd h.next) B→¬C9 ρ h B:=by
  rintro B hB ⟨k2,cs2,o2,hg2,hk2⟩
  refine hsep B hB ⟨k2,cs2,o2,hg2,?_⟩
  rw [he k2 _ hk2];exact G.map k2 _ hk2
 have RU:Rel I' ρ' w' (h'.Kd h.next):=by
  refine ⟨fun k y hk=> ?_,fun k cells B o hg hk=>R'.rel.cont k cells B o (Heap.Hn hg).1 hk,fun k k' c c' B o o' hg hg' hk hk'=>R'.rel.inj k k' c c' B o o' (Heap.Hn hg).1 (Heap.Hn hg').1 hk hk',fun B hB=>⟨(R'.rel.imm B hB).1,fun ho=>(R'.rel.imm B hB).2 (hownU B ho)⟩⟩
  have:=R'.rel.dom k y hk
  have hn:∀ n,(h'.Kd n).next=h'.next:=by
   intro n
   induction n with
   | zero=>rfl
   | succ n ih=>exact ih
  rw [hn];exact this
 obtain ⟨I2,hI2⟩:∃ I2:Nat→Prop,I2=A0q true I' ρ' (h'.Kd h.next):=⟨_,rfl⟩
 have hI':∀ B,I' B→I2 B:=fun B hB=>by rw [hI2];exact .inl ⟨rfl,hB⟩
 have hI3:∀ B,I2 B→I' B∨C9 ρ' (h'.Kd h.next) B:=fun B hB=>by rw [hI2] at hB;exact hB.imp (·.2) id
 have KI:E7 I' ρ'' w' I2 ρ'' w':=⟨fun B hB=>⟨hI' B hB,rfl⟩,fun _ _ h=>h,fun B cs e fz hg=>⟨cs,e,fz,hg,rfl⟩⟩
 have nar:∀ {y:AV} {u u':Value},VR w I ρ y u→VR w' I' ρ' y u'→VR w' I2 ρ'' y u':=fun a b=>(a.narrow he b).keep KI
 have RR:RelL I2 ρ'' w' h:=by
  refine ⟨⟨fun k y hk=>by obtain ⟨z,hz⟩:=(hin k y hk).1;exact hd k z hz,fun k cells B o hg hk=> ?_,fun k k' c c' B o o' hg hg' hk hk'=> ?_,fun B hB=> ?_⟩,fun lp hl=> ?_,fun B g hg=> ?_⟩
  ·obtain ⟨cs,e,fz,g1,g2,g3⟩:=R'.rel.cont k cells B o (hlive k cells hg) (hin k _ hk).2
   refine ⟨cs,e,fz,g1,g2,fun i y hy=> ?_⟩
   obtain ⟨u',u1,u2⟩:=g3 i y hy
   obtain ⟨⟨⟨B0,o0⟩,hρk⟩,_⟩:=hin k _ hk
   obtain ⟨cs0,e0,fz0,k1,k2,k3⟩:=R.rel.cont k cells B0 o0 hg hρk
   obtain ⟨u0,v1,v2⟩:=k3 i y hy
   exact ⟨u',u1,nar v2 u2⟩
  ·exact R'.rel.inj k k' c c' B o o' (hlive _ _ hg) (hlive _ _ hg') (hin k _ hk).2 (hin k' _ hk').2
  ·rcases hI3 B hB with h1|h1
   ·exact ⟨(R'.rel.imm B h1).1,fun ho=>(R'.rel.imm B h1).2 (hown B ho)⟩
   ·exact ⟨C9.lt RU h1,hsep B h1⟩
  ·obtain ⟨⟨fn,tmps,D,a1,a2,a3⟩,a4⟩:=R'.lp lp (by rw [E.lp];exact hl)
   obtain ⟨⟨fn0,tmps0,D0,b1,b2,b3⟩,b4⟩:=R.lp lp hl
   refine ⟨⟨fn,tmps,D,a1,fun t=>nar (b2 t) (a2 t),a3⟩,fun hi=> ?_⟩
   rcases hI3 _ hi with h1|h1
   ·exact a4 h1
   ·obtain ⟨k,cs,o,hg,hk⟩:=h1
    obtain ⟨cs',e,fz,g1,_⟩:=RU.cont k cs _ o hg hk
    rw [a1] at g1;cases g1
  ·obtain ⟨a1,a2⟩:=R'.gh B g (by rw [E.gh];exact hg)
   obtain ⟨b1,b2⟩:=R.gh B g hg
   refine ⟨?_,fun hi=>(hI3 _ hi).elim a2.1 (fun ho=>a2.2 (hownU B ho)),fun ho=>a2.2 (hown B ho)⟩
   cases g with
   | map es clock =>
    obtain ⟨ms,p1,p2,p3⟩:=a1
    obtain ⟨ms0,q1,q2,q3⟩:=b1
    refine ⟨ms,p1,p2,fun i e m hi hm=> ?_⟩
    have h1:=p3 i e m hi hm
    have hil:=(List.getElem?_eq_some_iff.1 hi).1
    have h0:=q3 i e ms0[i] hi (by simp [q2,hil])
    exact ⟨nar h0.key h1.key,nar h0.val h1.val,h1.born⟩
   | iter m since seen last=>exact a1
   | text s pos=>exact a1
   | bld T e txt row=>exact a1
   | brow e txt cap=>exact a1
 have hvy:=A2d (al:=true) RU k x y v hy hv
 rw [←hI2] at hvy
 refine ⟨v,y,h,I2, ρ'',rfl,⟨hQ,rfl⟩,RR,hvy.keep ⟨fun B hB=>⟨hB,rfl⟩,fun _ _ h=>(by cases h),fun B cs e fz hg=>⟨cs,e,fz,hg,rfl⟩⟩,
  ⟨G.os,G.tape,G.output,G.size,Nat.le_refl _,fun B hB=>hI' B (G.imm B hB),fun k y hk=>by rw [he k y hk];exact G.map k y hk,G.block,G.cells,fun B ho=>G.owned B (hown B ho),fun B hB=> ?_,rfl,fun B hB=> .inl hB⟩⟩
 rcases hI3 B hB with h1|h1
 ·exact G.inew B h1
 ·exact .inr ((G.owned B (hownU B h1)).resolve_left (hsep0 B h1))
end
section
variable {P:Program}
def VO (V:Nat→AV→Heap→Prop) (j:Nat) (o:Oper) (r:Regs) (h:Heap):Prop:=match o.dst with
 | some d=>V j (rg r d) h
 | none=>True
def Dep (V:Nat→AV→Heap→Prop) (ops:List Oper) (r:Regs) (h:Heap) (e:Edge):Prop:=Region.binds .any e=true→match ops[e.on]? with
 | some o=>VO V e.on o r h
 | none=>True
def AllO (Φ : Nat→Oper→Prop):Nat→List Oper→Prop
 | _,[]=>True
 | i,o :: l => Φ i o∧AllO Φ (i+1) l
theorem AllO.get {Φ : Nat→Oper→Prop} : ∀ (l:List Oper) (i:Nat),AllO Φ i l→∀ (j:Nat) (o:Oper),l[j]? = some o → Φ (i+j) o:=by
 intro l
 induction l with
 | nil=>intro i _ j o h;simp at h
 | cons o l ih =>
  intro i hA j o' h
  obtain ⟨h1,h2⟩:=hA
  cases j with
  | zero=>simp at h;subst h;exact h1
  | succ j =>
   have:=ih (i+1) h2 j o' (by simpa using h)
   rwa [show i+(j+1)=i+1+j by omega]
def ssaB (ops:List Oper):Bool:=ops.all (fun o=>o.guard.isNone) && (ops.filterMap (·.dst)).Nodup && ((List.range ops.length).all fun i=>match ops[i]? with
 | some o=>o.after.toList.all fun e => !Region.binds .any e || decide (e.on < i)
 | none=>true)
theorem Ln:∀ {ops:List Oper},(ops.filterMap (·.dst)).Nodup→∀ (i j:Nat) (oi oj:Oper) (d:Tmp),ops[i]? = some oi→ops[j]? = some oj→oi.dst=some d→oj.dst=some d→i=j
 | [],_,i,j,oi,oj,d,h,_,_,_=>by simp at h
 | o :: l,hn,i,j,oi,oj,d,hi,hj,di,dj=>by
  have hn':(l.filterMap (·.dst)).Nodup:=by
   rw [List.filterMap_cons] at hn
   split at hn
   ·exact hn
   ·exact (List.nodup_cons.1 hn).2
  have hmem:∀ (k:Nat) (ok:Oper),l[k]? = some ok→ok.dst=some d→o.dst=some d→False:=by
   intro k ok hk hd ho
   rw [List.filterMap_cons,ho] at hn
   exact (List.nodup_cons.1 hn).1 (List.mem_filterMap.2 ⟨ok,List.mem_of_getElem? hk,hd⟩)
  cases i with
  | zero =>
   cases j with
   | zero=>rfl
   | succ j=>simp at hi hj;subst hi;exact (hmem j oj hj dj di).elim
  | succ i =>
   cases j with
   | zero=>simp at hi hj;subst hj;exact (hmem i oi hi di dj).elim
   | succ j=>rw [Ln hn' i j oi oj d (by simpa using hi) (by simpa using hj) di dj]
theorem A90 (Inv:Heap→Prop) (V:Nat→AV→Heap→Prop) (B:List (Tmp×AV)) {id:Nat} {l:List Oper} {Q:Out→Regs→Heap→Prop} {r0:Regs} {h0:Heap} (hs:ssaB l=true) (hBd:(l.filterMap (·.dst)).all (fun d => !(B.map Prod.fst).contains d)=true)
  (hmono:∀ j v h h',Ext h h'→V j v h→V j v h') (hi0:Inv h0) (hB0:∀ p∈B,rg r0 p.1=p.2) (hInv:∀ h h',Ext h h'→Inv h→Inv h')
  (hstep:∀ (r:Regs) (h:Heap),Inv h→(∀ p∈B,rg r p.1=p.2)→AllO (fun i o=>(∀ e∈o.after.toList,Dep V l r h e)→wpI P o.op o.dst (fun r' h'=> ∃ v,r'=Av r o.dst v∧(o.dst.isSome=true→V i v h')∧Ext h h') r h) 0 l)
  (hend:∀ (r:Regs) (h:Heap),Inv h→Ext h0 h→(∀ d,d ∉ l.filterMap (·.dst)→rg r d=rg r0 d)→AllO (fun i o=>VO V i o r h) 0 l→Q .norm r h):wpc P (.region id l.toArray true) Q r0 h0:=by
 unfold ssaB at hs
 simp only [Bool.and_eq_true,decide_eq_true_eq] at hs
 obtain ⟨⟨hgd,hnd⟩,hac⟩:=hs
 have hdst:=Ln hnd
 have hac':∀ (i:Nat) (o:Oper) (e:Edge),l[i]? = some o→e∈o.after.toList→Region.binds .any e=true→e.on < i:=by
  intro i o e hi he hb
  have:=List.all_eq_true.1 hac i (by simpa using (List.getElem?_eq_some_iff.1 hi).1)
  rw [hi] at this
  have:=List.all_eq_true.1 this e he
  simpa [hb] using this
 refine Nx ?_
 have key:∀ (f:Nat) (listed:Array Bool) (r:Regs) (h:Heap),listed.size=l.length→(List.range l.length).countP (fun i => !listed.getD i true)=f→Inv h→Ext h0 h→(∀ d,d ∉ l.filterMap (·.dst)→rg r d=rg r0 d) →
   (∀ i o,l[i]? = some o→listed.getD i false=true→VO V i o r h)→Bn P l.toArray (Q .norm) f listed r h:=by
  intro f
  induction f with
  | zero =>
   intro listed r h hsz hc hi hx hr hv
   have hall:∀ i,i < l.length→listed.getD i true=true:=by
    intro i hil
    have:=List.countP_eq_zero.1 hc i (by simpa using hil)
    simpa using this
   refine ⟨?_,hend r h hi hx hr ?_⟩
   ·rw [Region.ready,List.filter_eq_nil_iff]
    intro i hil
    have:=hall i (by simpa using hil)
    simp [this]
   ·have:∀ (m:List Oper) (k:Nat),(∀ j o,m[j]? = some o→VO V (k+j) o r h)→AllO (fun i o=>VO V i o r h) k m:=by
     intro m
     induction m with
     | nil=>intro k _;trivial
     | cons o m ih =>
      intro k hk
      exact ⟨hk 0 o rfl,ih (k+1) (fun j o' hj=>by have:=hk (j+1) o' (by simpa using hj);rwa [show k+(j+1)=k+1+j by omega] at this)⟩
    refine this l 0 fun j o hj=> ?_
    rw [Nat.zero_add]
    have hjl:=(List.getElem?_eq_some_iff.1 hj).1
    refine hv j o hj ?_
    have:=hall j hjl
    simpa [hsz,hjl] using this
  | succ f ih =>
   intro listed r h hsz hc hi hx hr hv
   have hB:∀ p∈B,rg r p.1=p.2:=fun p hp=>by
    rw [←hB0 p hp]
    refine hr _ fun hm=> ?_
    have:=List.all_eq_true.1 hBd _ hm
    simp at this
    exact this p.2 (by simpa using hp)
   refine ⟨fun he=> ?_,fun i hir=> ?_⟩
   ·exfalso
    have hex:∃ i,i < l.length∧listed.getD i true=false:=by
     have:0 < (List.range l.length).countP (fun i => !listed.getD i true):=by omega
     obtain ⟨i,h1,h2⟩:=List.countP_pos_iff.1 this
     exact ⟨i,by simpa using h1,by simpa using h2⟩
    have least:∀ n,(∃ i,i < n∧i < l.length∧listed.getD i true=false)→∃ i,i < l.length∧listed.getD i true=false∧∀ j,j < i→listed.getD j true=true:=by
     intro n
     induction n with
     | zero=>rintro ⟨i,h1,_⟩;omega
     | succ n ihn =>
      rintro ⟨i,h1,h2,h3⟩
      by_cases hlt:∃ j,j < n∧j < l.length∧listed.getD j true=false
      ·exact ihn hlt
      ·refine ⟨i,h2,h3,fun j hj=> ?_⟩
       cases hb:listed.getD j true with
       | true=>rfl
       | false=>exact (hlt ⟨j,ω,ω,hb⟩).elim
    obtain ⟨i0,h1,h2⟩:=hex
    obtain ⟨i,g1,g2,g3⟩:=least (i0+1) ⟨i0,ω,h1,h2⟩
    have:i∈Region.ready .any l.toArray listed:=by
     rw [Region.ready,List.mem_filter]
     refine ⟨by simpa using g1,?_⟩
     simp only [g2,Bool.not_false,Bool.true_and]
     have hget:l[i]? = some l[i]:=List.getElem?_eq_getElem g1
     simp only [List.getElem?_toArray,hget,Option.map_some,Option.getD_some]
     rw [←Array.all_toList,List.all_eq_true]
     intro e hee
     by_cases hb:Region.binds .any e=true
     ·have hon:=hac' i _ e hget hee hb
      have:=g3 e.on hon
      have hel:e.on < listed.size:=by omega
      simp [hb]
      simpa [hel] using this
     ·simp [hb]
    rw [he] at this
    cases this
   ·rw [Region.ready,List.mem_filter] at hir
    obtain ⟨h1,h2⟩:=hir
    have hil:i < l.length:=by simpa using h1
    have hget:l[i]? = some l[i]:=List.getElem?_eq_getElem hil
    simp only [Bool.and_eq_true,Bool.not_eq_true',List.getElem?_toArray,hget,Option.map_some,Option.getD_some] at h2
    obtain ⟨hun,hdep⟩:=h2
    simp only [List.getElem?_toArray,hget]
    have hgn:l[i].guard=none:=by
     have:=List.all_eq_true.1 hgd l[i] (List.getElem_mem hil)
     simpa using this
    have hst:=AllO.get _ _ (hstep r h hi hB) i l[i] hget (fun e he hb=>by
     rw [←Array.all_toList,List.all_eq_true] at hdep
     have:=hdep e he
     simp only [hb,Bool.not_true,Bool.false_or] at this
     have hon:=hac' i _ e hget he hb
     have heg:l[e.on]? = some l[e.on]:=List.getElem?_eq_getElem ω
     rw [heg]
     exact hv e.on _ heg this)
    rw [Nat.zero_add] at hst
    refine ⟨true,by simp [Ch,hgn],fun _=> ?_,fun e=>by cases e⟩
    have cont:∀ (v:AV) (h':Heap),(l[i].dst.isSome=true→V i v h')→Ext h h'→Bn P l.toArray (Q .norm) f (listed.setIfInBounds i true) (Av r l[i].dst v) h':=by
     intro v h' hV hE
     refine ih _ _ _ (by simp [hsz]) ?_ (hInv _ _ hE hi) (hx.trans hE) (fun d hd=> ?_) (fun j o hj hlj=> ?_)
     ·have hset:∀ k,(listed.setIfInBounds i true).getD k true=if k=i then true else listed.getD k true:=by
       intro k
       simp only [Array.getD_eq_getD_getElem?,Array.getElem?_setIfInBounds]
       by_cases hk:i=k
       ·subst hk;simp [hsz,hil]
       ·rw [if_neg hk,if_neg (Ne.symm hk)]
      have hcnt:∀ (m:List Nat),m.Nodup→i∈m→m.countP (fun k => !listed.getD k true)=m.countP (fun k => !(listed.setIfInBounds i true).getD k true)+1:=by
       intro m
       induction m with
       | nil=>intro _ hm;cases hm
       | cons a m ihm =>
        intro hnd' hm
        obtain ⟨n1,n2⟩:=List.nodup_cons.1 hnd'
        rw [List.countP_cons,List.countP_cons]
        by_cases ha:a=i
        ·subst ha
         have:m.countP (fun k => !listed.getD k true)=m.countP (fun k => !(listed.setIfInBounds a true).getD k true):=by
          apply List.countP_congr
          intro k hk
          rw [hset k,if_neg (fun e:k=a=>n1 (e ▸ hk))]
         rw [this,hset a,if_pos rfl,hun]
         simp
        ·have hm':i∈m:=by
          rcases List.mem_cons.1 hm with e|e
          ·exact (ha e.symm).elim
          ·exact e
         rw [ihm n2 hm',hset a,if_neg ha]
         omega
      have:=hcnt (List.range l.length) List.nodup_range (by simpa using hil)
      omega
     ·rw [←hr d hd]
      cases hds:l[i].dst with
      | none=>rfl
      | some d' =>
       have hne:d≠d':=fun e=>hd (List.mem_filterMap.2 ⟨l[i],List.getElem_mem hil,by rw [e];exact hds⟩)
       simp only [Av,Ec,if_neg hne]
     ·by_cases hji:j=i
      ·subst hji
       rw [hget] at hj
       cases hj
       unfold VO
       cases hds:l[j].dst with
       | none=>trivial
       | some d=>simp only [Av,Ec,if_pos rfl];exact hV (by rw [hds];rfl)
      ·have hlj':listed.getD j false=true:=by
        simp only [Array.getD_eq_getD_getElem?,Array.getElem?_setIfInBounds] at hlj ⊢
        rw [if_neg (Ne.symm hji)] at hlj
        exact hlj
       have:=hv j o hj hlj'
       unfold VO at this ⊢
       cases hdo:o.dst with
       | none=>trivial
       | some d =>
        rw [hdo] at this
        simp only at this ⊢
        have:V j (rg (Av r l[i].dst v) d) h:=by
         cases hds:l[i].dst with
         | none=>exact this
         | some d' =>
          have hne:d≠d':=fun e=>hji (hdst j i o l[i] d hj hget hdo (by rw [hds,e]))
          simp only [Av,Ec,if_neg hne];exact this
        exact hmono _ _ _ _ hE this
    have e:wpO P l[i] (Bn P l.toArray (Q .norm) f (listed.setIfInBounds i true)) r h=wpI P l[i].op l[i].dst (Bn P l.toArray (Q .norm) f (listed.setIfInBounds i true)) r h:=rfl
    show wpO P l[i] _ r h
    rw [e]
    exact X9 (fun r' h' ⟨v,hr',hV,hE⟩=>by rw [hr'];exact cont v h' hV hE) hst
 refine key l.length (Array.replicate l.length false) r0 h0 μ ?_ hi0 (Ext.refl h0) (fun _ _=>rfl) (fun i o hi hl=> ?_)
 ·have:∀ (m:List Nat),(∀ k∈m,k < l.length)→m.countP (fun i => !(Array.replicate l.length false).getD i true)=m.length:=by
   intro m hm
   rw [List.countP_eq_length]
   intro k hk
   have:=hm k hk
   simp [this]
  rw [this _ (fun k hk=>by simpa using hk),List.length_range]
 ·have:=(List.getElem?_eq_some_iff.1 hi).1
  simp [this] at hl
end
end Go.Proofs.YtmbndhciflilbaaGreatDoor.X
