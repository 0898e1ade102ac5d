/-
  Logs: part, Text, Room, put.
-/
import Derived.Test.YtmbndhciflilbaaGreatDoorV92
import Derived.Test.YtmbndhciflilbaaGreatDoorPB
namespace Go.Proofs.YtmbndhciflilbaaGreatDoor.X
open Go.RowKit F
set_option maxRecDepth 100000
set_option linter.unusedSimpArgs false
set_option linter.unusedVariables false
theorem Aau {z:Nat} {T:Txt} {n:Nat} : ((T.take (min ((n+1) * z) T.length)).drop (min (n * z) T.length))=prtT z T n:=by
 unfold prtT
 have h1:T.take (min ((n+1) * z) T.length)=T.take ((n+1) * z):=by
  by_cases h:(n+1) * z≤T.length
  ·rw [Nat.min_eq_left h]
  ·rw [Nat.min_eq_right ω,List.take_length,List.take_of_length_le ω]
 have e:(n+1) * z=n * z+z:=by rw [Nat.add_mul,Nat.one_mul]
 rw [h1,e]
 by_cases h:n * z≤T.length
 ·rw [Nat.min_eq_left h,List.drop_take]
  congr 1
  omega
 ·rw [Nat.min_eq_right ω,List.drop_of_length_le (by rw [List.length_take];omega),List.drop_of_length_le (show T.length≤n * z by omega),List.take_nil]
section
variable {lb wb pv f count z:Nat} {P:List Txt} {h:Heap}
def PtV (lb:Nat) (z:Nat) (T:Txt) (n y1 y2:Nat) (n1:Int):Nat→AV→Prop
 | 0,v=>v = .int .i64 n
 | 1,v=>v = .ptr lb 0
 | 2,v=>v = .ptr lb 0
 | 3,v=>v = .ptr lb 3
 | 4,v=>v = .int .i64 z
 | 5,v=>v = .int .i64 (y1:Int)
 | 6,v=>v=S T
 | 7,v=>v = .int .i64 (T.length:Int)
 | 8,v=>v = .int .i64 ((min y1 T.length:Nat):Int)
 | 9,v=>v = .int .i64 n
 | 10,v=>v = .int .i64 n1
 | 11,v=>v = .ptr lb 0
 | 12,v=>v = .ptr lb 0
 | 13,v=>v = .ptr lb 3
 | 14,v=>v = .int .i64 z
 | 15,v=>v = .int .i64 (y2:Int)
 | 16,v=>v=S T
 | 17,v=>v = .int .i64 (T.length:Int)
 | 18,v=>v = .int .i64 ((min y2 T.length:Nat):Int)
 | 19,v=>v = .int .i64 ((min y1 T.length:Nat):Int)
 | 20,v=>v = .int .i64 ((min y2 T.length:Nat):Int)
 | _,v=>True
theorem pt1 {cd:Code} (hc:(Tryz.f36.body).bind (Fy 1)=some cd) {r:Regs} {Q:Out→Regs→Heap→Prop} {v0 v1 v2 v4:AV} (g:h.get lb=some [v0,v1,v2,.int .i64 (z:Nat),v4]) {T:Txt} {n:Nat} (hz:z < 2 ^ 20) (hn:n < 2 ^ 20)
  (r0:rg r 0 = .ptr lb 0) (r1:rg r 1=S T) (r2:rg r 2 = .int .i64 n)
  (hQ:∀ r',rg r' 1=S T→rg r' 7 = .int .i64 ((min (n * z) T.length:Nat):Int)→rg r' 8 = .int .i64 ((min ((n+1) * z) T.length:Nat):Int)→Q .norm r' h):wpc Tryz.prog cd Q r h:=by
 simp [Tryz.f36,Fy] at hc
 subst hc
 have h1:n * z < 2 ^ 40:=by have:=Nat.mul_lt_mul'' hn hz;omega
 have e1:(n+1) * z=n * z+z:=by rw [Nat.add_mul,Nat.one_mul]
 have m1:(n:Int) * z=((n * z:Nat):Int):=by push_cast;rfl
 have m3:((n+1:Nat):Int) * z=(((n+1) * z:Nat):Int):=by push_cast;rfl
 have w1:IntKind.i64.wrap ((n:Int) * z)=((n * z:Nat):Int):=by rw [m1,wrap64 ω ω]
 have w2:IntKind.i64.wrap ((n:Int)+1)=((n+1:Nat):Int):=by rw [wrap64 ω ω];push_cast;rfl
 have w3:IntKind.i64.wrap (((n+1:Nat):Int) * z)=(((n+1) * z:Nat):Int):=by rw [m3,wrap64 ω ω]
 have x1:(if (T.length:Int) < ((n * z:Nat):Int) then (T.length:Int) else ((n * z:Nat):Int))=((min (n * z) T.length:Nat):Int):=by split<;>omega
 have x2:(if (T.length:Int) < (((n+1) * z:Nat):Int) then (T.length:Int) else (((n+1) * z:Nat):Int))=((min ((n+1) * z) T.length:Nat):Int):=by split<;>omega
 have x1':(if T.length < n * z then (T.length:Int) else ((n * z:Nat):Int))=((min (n * z) T.length:Nat):Int):=by split<;>omega
 have x2':(if T.length < (n+1) * z then (T.length:Int) else (((n+1) * z:Nat):Int))=((min ((n+1) * z) T.length:Nat):Int):=by split<;>omega
 generalize n * z=y1 at *
 generalize (n+1) * z=y2 at *
 generalize ((n+1:Nat):Int)=n1 at *
 refine Hx (fun _ _ h'=>h=h') (PtV lb z T n y1 y2 n1) κ rfl ?_ ?_
 ·rintro D r' _ rfl cl hr
  have q0:rg r' 0 = .ptr lb 0:=(Dr hr κ).trans r0
  have q1:rg r' 1=S T:=(Dr hr κ).trans r1
  have q2:rg r' 2 = .int .i64 n:=(Dr hr κ).trans r2
  refine ⟨?_,?_,?_,?_,?_,?_,?_,?_,?_,?_,?_,?_,?_,?_,?_,?_,?_,?_,?_,?_,?_,trivial⟩
  all_goals (intro hL hd;simp [DepL,VL,PtV,Region.binds] at hd)
  ·simp [q2,PtV]
  ·simp [q0,PtV]
  ·simp [hd,PtV]
  ·simp [hd,A8,PtV]
  ·simp [hd,g,PtV]
  ·simp [hd,w1,PtV]
  ·simp [q1,PtV]
  ·simp [hd,PtV]
  ·simp [hd,My,PtV,x1']
  ·simp [q2,PtV]
  ·simp [hd,w2,PtV]
  ·simp [q0,PtV]
  ·simp [hd,PtV]
  ·simp [hd,A8,PtV]
  ·simp [hd,g,PtV]
  ·simp [hd,w3,PtV]
  ·simp [q1,PtV]
  ·simp [hd,PtV]
  ·simp [hd,My,PtV,x2']
  ·simp [hd,PtV]
  ·simp [hd,PtV]
 ·rintro D r' _ hall rfl hr hA
  obtain ⟨_,_,_,_,_,_,_,_,_,_,_,_,_,_,_,_,_,_,_,h19,h20,_⟩:=hA
  simp [VL,PtV] at h19 h20
  exact hQ r' ((hr 1 μ).trans r1) (by simpa using h19) (by simpa using h20)
theorem Zh {v0 v1 v2 v4:AV} (g:h.get lb=some [v0,v1,v2,.int .i64 (z:Nat),v4]) {T:Txt} {n:Nat} (hz:z < 2 ^ 20) (hn:n < 2 ^ 20) (hT:T.length < 2 ^ 50) :
  CSem Tryz.prog 36 [.ptr lb 0,S T,.int .i64 n] h fun x h'=>x=S (prtT z T n)∧h'=h:=by
 refine CSem.body hm Tryz.func36 rfl κ κ (by simp [Tryz.ntmps36]) ?_
 refine Nd (fun r h'=>rg r 0 = .ptr lb 0∧rg r 1=S T∧rg r 2 = .int .i64 n∧h=h') ?_ μ
 rintro r _ ⟨r0,r1,r2,rfl⟩
 rw [Eb]
 refine pt1 rfl g hz hn r0 r1 r2 fun r' q1 q7 q8=> ?_
 rw [Td]
 have hle:min (n * z) T.length≤min ((n+1) * z) T.length:=by
  have e1:(n+1) * z=n * z+z:=by rw [Nat.add_mul,Nat.one_mul]
  omega
 have hle2:min ((n+1) * z) T.length≤T.length:=Nat.min_le_right _ _
 have hps:=Aau (z:=z) (T:=T) (n:=n)
 generalize min (n * z) T.length=u1 at *
 generalize min ((n+1) * z) T.length=u2 at *
 simp [q1,q7,q8,hle,hle2,hps]
structure TxI (lb wb count z:Nat) (cap:Nat) (P:List Txt) (h0:Heap) (i:Nat) (r:Regs) (hp:Heap):Prop where
 le:i≤P.length
 r0:rg r 0 = .ptr lb 0
 r3:∃ acc,rg r 3=S acc∧acc ++ txtL z (P.drop i)=txtL z P
 r11:rg r 11 = .sl wb 0 count cap 1
 r12:rg r 12 = .int .i64 count
 r13:rg r 13 = .int .i64 i
 h:h0=hp
theorem Pm (A:LgB lb wb pv f count (z:Nat) P h) (hc:count < 2 ^ 40) (hT:(txtL z P).length < 2 ^ 45) :
  CSem Tryz.prog 18 [.ptr lb 0] h fun x h'=>x=S (txtL z P)∧h'=h:=by
 refine CSem.body hm Tryz.func18 rfl κ κ (by simp [Tryz.ntmps18]) ?_
 obtain ⟨⟨cap,cs,g,gw,c1,c2,c3⟩,pl,ne⟩:=A
 simp [Tryz.f18,A8,g]
 refine Ar (TxI lb wb count z cap P h) (P.length - ·) ?_ 0 ?_
 rotate_left
 ·exact ⟨ω,μ,⟨[],μ,μ⟩,μ,μ,μ,rfl⟩
 rintro i r hp ⟨le,r0,⟨acc,r3,hacc⟩,r11,r12,r13,rfl⟩
 rcases Nat.lt_or_eq_of_le le with hlt|heq
 ·have hlt':(i:Int) < count:=by omega
  have hw1:IntKind.i64.wrap ((i:Int)+1)=(i:Int)+1:=wrap64 ω ω
  have hci:cs[i]? = some (S P[i]):=by rw [c3 i ω,List.getElem?_eq_getElem hlt];rfl
  have hdr:P.drop i=P[i] :: P.drop (i+1):=List.drop_eq_getElem_cons hlt
  rw [hdr,txtL] at hacc
  have hcl:i < cs.length:=by omega
  have hci':cs[i]=S P[i]:=by rw [List.getElem?_eq_getElem hcl] at hci;exact Option.some.inj hci
  have hic:i < count:=by omega
  have hlen:=congrArg List.length hacc
  by_cases hs:P[i].length < z
  ·have hs':(P[i].length:Int) < z:=by omega
   rw [if_pos hs] at hacc hlen
   rw [List.length_append] at hlen
   have hbb:acc.length+P[i].length≤140737488355328:=by omega
   simp [r0,r3,r11,r12,r13,hlt',hic,gw,hcl,hci',A8,g,hs',hacc,hbb]
  ·have hs':¬(P[i].length:Int) < z:=by omega
   rw [if_neg hs] at hacc hlen
   rw [←List.append_assoc] at hacc
   rw [List.length_append,List.length_append] at hlen
   have hbb:acc.length+P[i].length≤140737488355328:=by omega
   simp [r0,r3,r11,r12,r13,hlt',hic,gw,hcl,hci',A8,g,hs',hw1,hbb]
   exact ⟨i+1,ω,ω,by simpa using r0,⟨acc ++ P[i],μ,hacc⟩,by simpa using r11,by simpa using r12,μ,rfl⟩
 ·subst heq
  have hge:¬(P.length:Int) < count:=by omega
  rw [List.drop_length,txtL,List.append_nil] at hacc
  subst hacc
  simp [r3,r12,r13,hge]
theorem Zj (A:LgB lb wb pv f count (z:Nat) P h) (hc:count < 2 ^ 20) (hz:z < 2 ^ 20) (hT:(txtL z P).length≤count * z) :
  CSem Tryz.prog 19 [.ptr lb 0] h fun x h'=>x = .int .i64 ((count * z - (txtL z P).length:Nat):Int)∧h'=h:=by
 refine CSem.body hm Tryz.func19 rfl κ κ (by simp [Tryz.ntmps19]) ?_
 have hA:=A
 obtain ⟨⟨cap,cs,g,gw,c1,c2,c3⟩,pl,ne⟩:=A
 have h1:count * z < 2 ^ 40:=by have:=Nat.mul_lt_mul'' hc hz;omega
 have w1:IntKind.i64.wrap ((count:Int) * z)=((count * z:Nat):Int):=by rw [wrap64 (by push_cast at *;omega) (by push_cast at *;omega)];push_cast;rfl
 have w2:IntKind.i64.wrap (((count * z:Nat):Int) - (txtL z P).length)=((count * z - (txtL z P).length:Nat):Int):=by rw [wrap64 ω ω];omega
 simp [Tryz.f19]
 refine Br 13 κ ?_
 simp [A8,g,w1]
 refine D7.use (x:=S (txtL z P)) (Pm hA ω ω) ?_
 simp
 rw [show (count:Int) * z=((count * z:Nat):Int) by push_cast;rfl]
 exact w2
end
end Go.Proofs.YtmbndhciflilbaaGreatDoor.X
